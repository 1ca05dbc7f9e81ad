-- Printed for this claim and put together by wip/tools/prune.py.
import Derived.Test.YtiklcpacbclpnaaDoorCUns1
set_option linter.unusedVariables false
set_option linter.unusedSimpArgs false
section
namespace Go.Proofs.YtiklcpacbclpnaaDoor.P
open Go.RowKit Go.Proofs.YtiklcpacbclpnaaDoorW.PrintWords Go.Proofs.YtiklcpacbclpnaaDoorW.PrintLast Go.Proofs.YtiklcpacbclpnaaDoorW.PrintMore
attribute [local go_sem] isSome_setCell_eq max2_int min2_int max_two min_two max_three min_three max_four min_four
set_option linter.unusedVariables false
set_option linter.unusedSimpArgs false
def hibernacletop_wild.l0 : Nat → List ByteArray → List ByteArray → Int → Int → Option (Bool)
  | 0, _, _, _, _ => none
  | k + 1, x0, x5, x6, x7 => if x7 < x6 then (if 0 ≤ x7 then (if x7 < (x5.length : Int) then (if ((rdOf ByteArray.empty x5 x7).size : Int) = 128 then (hibernacletop_wild.l0 k x0 x5 x6 (wrap64 (x7 + 1))) else (some true)) else (none)) else (none)) else (some (decide ((x0.length : Int) > 20)))
def hibernacletop_wild.f (k : Nat) (l0 : List ByteArray) : Option (Bool) := hibernacletop_wild.l0 k l0 l0 (l0.length : Int) 0
theorem hibernacletop_wild.mono_l : ∀ k, (∀ y0 y1 y2 y3, LeO (hibernacletop_wild.l0 k y0 y1 y2 y3) (hibernacletop_wild.l0 (k + 1) y0 y1 y2 y3))
  | 0 => fun _ _ _ _ r h => by simp [hibernacletop_wild.l0] at h
  | k + 1 => by
    have ih0 := hibernacletop_wild.mono_l k
    · intro y0 y1 y2 y3
      unfold hibernacletop_wild.l0
      repeat' first
      | (with_reducible exact ih0 _ _ _ _)
      | (with_reducible exact LeO.refl _)
      | (with_reducible exact LeO.none _)
      | (with_reducible refine LeO.ite ?_ ?_)
      | (with_reducible refine LeO.bind ?_ (fun _ => ?_))
      | exact ih0 _ _ _ _
      | exact LeO.none _
      | refine LeO.ite ?_ ?_
      | refine LeO.bind ?_ (fun _ => ?_)
theorem hibernacletop_wild.mono : ∀ a0 k, LeO (hibernacletop_wild.f k a0) (hibernacletop_wild.f (k + 1) a0) := by
  intro a0 k
  have ih0 := hibernacletop_wild.mono_l k
  unfold hibernacletop_wild.f
  repeat' first
      | (with_reducible exact ih0 _ _ _ _)
      | (with_reducible exact LeO.refl _)
      | (with_reducible exact LeO.none _)
      | (with_reducible refine LeO.ite ?_ ?_)
      | (with_reducible refine LeO.bind ?_ (fun _ => ?_))
      | exact ih0 _ _ _ _
      | exact LeO.none _
      | refine LeO.ite ?_ ?_
      | refine LeO.bind ?_ (fun _ => ?_)
set_option maxHeartbeats 8000000 in
set_option maxRecDepth 100000 in
theorem hibernacletop_wild.calls (k : Nat) (A0 : Option Addr) (c0 : Nat) (l0 : List ByteArray) (r : Bool) (w : World) (hr0 : Kd.C Kd.string w A0 l0.length l0) (hc0 : l0.length ≤ c0) (h : hibernacletop_wild.f k l0 = some r) :
    Calls Tryd.prog 5 #[.slice A0 l0.length c0] w fun e w' => e = .returned (.bool r) ∧ Drawn0 w w' := by
  have HR0 := Aside0.mk hr0
  have HC0 := Aside0.mk hc0
  clear hr0 hc0
  have H : (hibernacletop_wild.l0 k l0 l0 (l0.length : Int) 0) = some r := h
  clear h
  have H' := Aside0.mk H
  clear H
  go_enter Tryd.func5, Tryd.ntmps5
  go_wp2
  go_loopg [7] k (fun kq v7 w' => ∃ (x7_1 : Int), v7 = .int .i64 x7_1 ∧ Aside0 (hibernacletop_wild.l0 kq l0 l0 (l0.length : Int) x7_1 = some r) ∧ Aside0 (kq ≤ k) ∧ Drawn0 w w')
  case atStart => exact ⟨(0), (by first | rfl | (simp; done) | (simp [*]; done)), H', ⟨Nat.le_refl _⟩, by repeat (first | exact Drawn0.refl _ | apply Drawn0.step)⟩
  case round =>
    clear H'
    obtain ⟨x7_1, rfl, HA, HK1, ⟨m1, rfl⟩⟩ := hrel
    cases gk with
    | zero => exact absurd HA.out (by simp [hibernacletop_wild.l0])
    | succ k1 =>
      have H := HA.out
      clear HA
      simp only [hibernacletop_wild.l0] at H
      by_cases c2 : x7_1 < (l0.length : Int)
      · rw [if_pos c2] at H
        have c2b0 : decide (x7_1 < (l0.length : Int)) = true := decide_eq_true c2
        clear c2
        by_cases c3 : 0 ≤ x7_1
        · rw [if_pos c3] at H
          have c3b0 : decide (0 ≤ x7_1) = true := decide_eq_true c3
          clear c3
          by_cases c4 : x7_1 < (l0.length : Int)
          · rw [if_pos c4] at H
            have c4b0 : decide (x7_1 < (l0.length : Int)) = true := decide_eq_true c4
            clear c4
            by_cases c5 : ((rdOf ByteArray.empty l0 x7_1).size : Int) = 128
            · rw [if_pos c5] at H
              have c5b0 : (((rdOf ByteArray.empty l0 x7_1).size : Int) == 128) = true := beq_iff_eq.mpr c5
              have c5b1 : (((rdOf ByteArray.empty l0 x7_1).size : Int) != 128) = false := bne_eq_false_iff_eq.mpr c5
              clear c5
              have H' := Aside0.mk H
              clear H
              have p101 : 0 ≤ (x7_1 : Int) := of_decide_eq_true (by first | (with_reducible assumption) | assumption)
              have q101 : x7_1 < (l0.length : Int) := of_decide_eq_true (by first | (with_reducible assumption) | assumption)
              obtain ⟨ad101, e101, hx101_0⟩ := Kd.at_string HR0.out x7_1 p101 q101
              cases e101
              replace p101 := eq_true p101
              replace q101 := eq_true q101
              go_wp2
              go_roundg k1
              case measure => have := HK1.out; omega
              case rel => exact ⟨(wrap64 (x7_1 + 1)), (by first | rfl | (simp; done) | (simp [*]; done)), H', ⟨by have := HK1.out; omega⟩, by repeat (first | exact Drawn0.refl _ | apply Drawn0.step)⟩
            · rw [if_neg c5] at H
              have c5b0 : (((rdOf ByteArray.empty l0 x7_1).size : Int) == 128) = false := beq_eq_false_iff_ne.mpr c5
              have c5b1 : (((rdOf ByteArray.empty l0 x7_1).size : Int) != 128) = true := bne_iff_ne.mpr c5
              obtain rfl := Option.some.inj H
              have p101 : 0 ≤ (x7_1 : Int) := of_decide_eq_true (by first | (with_reducible assumption) | assumption)
              have q101 : x7_1 < (l0.length : Int) := of_decide_eq_true (by first | (with_reducible assumption) | assumption)
              obtain ⟨ad101, e101, hx101_0⟩ := Kd.at_string HR0.out x7_1 p101 q101
              cases e101
              replace p101 := eq_true p101
              replace q101 := eq_true q101
              go_wp2
              go_ret
              exact ⟨by first | rfl | (simp; done) | (simp [*]; done), by repeat (first | exact Drawn0.refl _ | apply Drawn0.step)⟩
          · rw [if_neg c4] at H
            exact absurd H (by simp)
        · rw [if_neg c3] at H
          exact absurd H (by simp)
      · rw [if_neg c2] at H
        have c2b0 : decide (x7_1 < (l0.length : Int)) = false := decide_eq_false c2
        clear c2
        obtain rfl := Option.some.inj H
        go_wp2
        go_ret
        exact ⟨by first | rfl | (simp; done) | (simp [*]; done), by repeat (first | exact Drawn0.refl _ | apply Drawn0.step)⟩
def mmu_there.f (l0 : List ByteArray) (a1 : Int) : Option (Bool) := if a1 ≥ 0 then (if a1 < (l0.length : Int) then (if 0 ≤ a1 then (some (((rdOf ByteArray.empty l0 a1).size : Int) == 128)) else (none)) else (some false)) else (some false)
set_option maxHeartbeats 8000000 in
set_option maxRecDepth 100000 in
theorem mmu_there.calls (A0 : Option Addr) (c0 : Nat) (l0 : List ByteArray) (a1 : Int) (r : Bool) (w : World) (hr0 : Kd.C Kd.string w A0 l0.length l0) (hc0 : l0.length ≤ c0) (h : mmu_there.f l0 a1 = some r) :
    Calls Tryd.prog 29 #[.slice A0 l0.length c0, .int .i64 a1] w fun e w' => e = .returned (.bool r) ∧ Drawn0 w w' := by
  have HR0 := Aside0.mk hr0
  have HC0 := Aside0.mk hc0
  clear hr0 hc0
  have H : (if a1 ≥ 0 then (if a1 < (l0.length : Int) then (if 0 ≤ a1 then (some (((rdOf ByteArray.empty l0 a1).size : Int) == 128)) else (none)) else (some false)) else (some false)) = some r := h
  clear h
  by_cases c3 : a1 ≥ 0
  · rw [if_pos c3] at H
    have c3b0 : decide (0 ≤ a1) = true := decide_eq_true c3
    clear c3
    by_cases c4 : a1 < (l0.length : Int)
    · rw [if_pos c4] at H
      have c4b0 : decide (a1 < (l0.length : Int)) = true := decide_eq_true c4
      clear c4
      by_cases c5 : 0 ≤ a1
      · rw [if_pos c5] at H
        have c5b0 : decide (0 ≤ a1) = true := decide_eq_true c5
        clear c5
        obtain rfl := Option.some.inj H
        have p102 : 0 ≤ (a1 : Int) := of_decide_eq_true (by first | (with_reducible assumption) | assumption)
        have q102 : a1 < (l0.length : Int) := of_decide_eq_true (by first | (with_reducible assumption) | assumption)
        obtain ⟨ad102, e102, hx102_0⟩ := Kd.at_string HR0.out a1 p102 q102
        cases e102
        replace p102 := eq_true p102
        replace q102 := eq_true q102
        go_enter Tryd.func29, Tryd.ntmps29
        go_wp2
        go_ret
        exact ⟨by first | rfl | (simp; done) | (simp [*]; done), by repeat (first | exact Drawn0.refl _ | apply Drawn0.step)⟩
      · rw [if_neg c5] at H
        exact absurd H (by simp)
    · rw [if_neg c4] at H
      have c4b0 : decide (a1 < (l0.length : Int)) = false := decide_eq_false c4
      clear c4
      obtain rfl := Option.some.inj H
      go_enter Tryd.func29, Tryd.ntmps29
      go_wp2
      go_ret
      exact ⟨by first | rfl | (simp; done) | (simp [*]; done), by repeat (first | exact Drawn0.refl _ | apply Drawn0.step)⟩
  · rw [if_neg c3] at H
    have c3b0 : decide (0 ≤ a1) = false := decide_eq_false c3
    clear c3
    obtain rfl := Option.some.inj H
    go_enter Tryd.func29, Tryd.ntmps29
    go_wp2
    go_ret
    exact ⟨by first | rfl | (simp; done) | (simp [*]; done), by repeat (first | exact Drawn0.refl _ | apply Drawn0.step)⟩
def num_Get.l0 : Nat → ByteArray → Int → Int → Int → Option (Int)
  | 0, _, _, _, _ => none
  | k + 1, x0, x3, x7, x8 => if x8 < x7 then (if 0 ≤ x8 then (if x8 < (x0.size : Int) then (if 0 ≤ (wrap64 (8 * x8)) then (num_Get.l0 k x0 (Go.bits .or .u64 x3 (shl .u64 (IntKind.u64.wrap (bt x0 x8)) (wrap64 (8 * x8)))) x7 (wrap64 (x8 + 1))) else (none)) else (none)) else (none)) else (some x3)
def num_Get.f (k : Nat) (a0 : ByteArray) : Option (Int) := num_Get.l0 k a0 0 (mn (a0.size : Int) 8) 0
theorem num_Get.mono_l : ∀ k, (∀ y0 y1 y2 y3, LeO (num_Get.l0 k y0 y1 y2 y3) (num_Get.l0 (k + 1) y0 y1 y2 y3))
  | 0 => fun _ _ _ _ r h => by simp [num_Get.l0] at h
  | k + 1 => by
    have ih0 := num_Get.mono_l k
    · intro y0 y1 y2 y3
      unfold num_Get.l0
      repeat' first
      | (with_reducible exact ih0 _ _ _ _)
      | (with_reducible exact LeO.refl _)
      | (with_reducible exact LeO.none _)
      | (with_reducible refine LeO.ite ?_ ?_)
      | (with_reducible refine LeO.bind ?_ (fun _ => ?_))
      | exact ih0 _ _ _ _
      | exact LeO.none _
      | refine LeO.ite ?_ ?_
      | refine LeO.bind ?_ (fun _ => ?_)
theorem num_Get.mono : ∀ a0 k, LeO (num_Get.f k a0) (num_Get.f (k + 1) a0) := by
  intro a0 k
  have ih0 := num_Get.mono_l k
  unfold num_Get.f
  repeat' first
      | (with_reducible exact ih0 _ _ _ _)
      | (with_reducible exact LeO.refl _)
      | (with_reducible exact LeO.none _)
      | (with_reducible refine LeO.ite ?_ ?_)
      | (with_reducible refine LeO.bind ?_ (fun _ => ?_))
      | exact ih0 _ _ _ _
      | exact LeO.none _
      | refine LeO.ite ?_ ?_
      | refine LeO.bind ?_ (fun _ => ?_)
set_option maxHeartbeats 8000000 in
set_option maxRecDepth 100000 in
theorem num_Get.calls (k : Nat) (a0 : ByteArray) (r : Int) (w : World) (h : num_Get.f k a0 = some r) :
    Calls Tryd.prog 30 #[.string a0] w fun e w' => e = .returned (.int .u64 r) ∧ Below w.heap.size w w' := by
  have HB := Aside0.mk (Below.refl w.heap.size w)
  have H : (num_Get.l0 k a0 0 (mn (a0.size : Int) 8) 0) = some r := h
  clear h
  obtain ⟨ji2, hji2⟩ : ∃ j_ : Int, (mn (a0.size : Int) 8) = j_ := ⟨_, rfl⟩
  replace H : (num_Get.l0 k a0 0 ji2 0) = some r := by first | (rw [hji2] at H; exact H) | (simp only [hji2] at H ⊢; exact H)
  (try (have hji2h : ji2 ≤ 8 := by (rw [← hji2]; unfold mn; (repeat' split) <;> omega)))
  (try (have hji2g : ji2 ≤ 64 := by omega))
  (try (have hji2l : 0 ≤ ji2 := by (rw [← hji2]; unfold mn; (repeat' split) <;> omega)))
  (try (have hji2m : 0 ≤ ji2 := by omega))
  have hji2_ : (if 8 < (a0.size : Int) then 8 else (a0.size : Int)) = ji2 := hji2
  have H' := Aside0.mk H
  clear H
  go_enter Tryd.func30, Tryd.ntmps30
  go_wp2
  go_loopg [3, 8] k (fun kq v3 v8 w' => ∃ (x3_1 : Int) (x8_1 : Int), v3 = .int .u64 x3_1 ∧ v8 = .int .i64 x8_1 ∧ Aside0 (num_Get.l0 kq a0 x3_1 ji2 x8_1 = some r) ∧ Aside0 (kq ≤ k) ∧ Aside0 (Below w.heap.size w w'))
  case atStart => exact ⟨(0), (0), (by first | rfl | (simp; done) | (simp [*]; done)), (by first | rfl | (simp; done) | (simp [*]; done)), H', ⟨Nat.le_refl _⟩, ⟨by repeat (first | (with_reducible first | exact HB.out | apply below_alloc | apply pw_below_drewN | apply below_drew1) | exact HB.out)⟩⟩
  case round =>
    clear H'
    try clear p2
    obtain ⟨x3_1, x8_1, rfl, rfl, HA, HK1, HB⟩ := hrel
    cases gk with
    | zero => exact absurd HA.out (by simp [num_Get.l0])
    | succ k1 =>
      have H := HA.out
      clear HA
      simp only [num_Get.l0] at H
      by_cases c3 : x8_1 < ji2
      · rw [if_pos c3] at H
        have c3b0 : decide (x8_1 < ji2) = true := decide_eq_true c3
        clear c3
        by_cases c4 : 0 ≤ x8_1
        · rw [if_pos c4] at H
          have c4b0 : decide (0 ≤ x8_1) = true := decide_eq_true c4
          clear c4
          by_cases c5 : x8_1 < (a0.size : Int)
          · rw [if_pos c5] at H
            have c5b0 : decide (x8_1 < (a0.size : Int)) = true := decide_eq_true c5
            clear c5
            obtain ⟨ji7, hji7⟩ : ∃ j_ : Int, (wrap64 (8 * x8_1)) = j_ := ⟨_, rfl⟩
            replace H : (if 0 ≤ (ji7) then (num_Get.l0 k1 a0 (Go.bits .or .u64 x3_1 (shl .u64 (IntKind.u64.wrap (bt a0 x8_1)) (ji7))) ji2 (wrap64 (x8_1 + 1))) else (none)) = some r := by first | (rw [hji7] at H; exact H) | (simp only [hji7] at H ⊢; exact H)
            have hji7w : (IntKind.i64.wrap (8 * x8_1)) = ji7 := (i64_w _).trans hji7
            by_cases c8 : 0 ≤ (ji7)
            · rw [if_pos c8] at H
              have c8b0 := eq_true c8
              have c8b1 : decide (0 ≤ (ji7)) = true := decide_eq_true c8
              clear c8
              obtain ⟨ji9, hji9⟩ : ∃ j_ : Int, (shl .u64 (IntKind.u64.wrap (bt a0 x8_1)) (ji7)) = j_ := ⟨_, rfl⟩
              replace H : (num_Get.l0 k1 a0 (Go.bits .or .u64 x3_1 (ji9)) ji2 (wrap64 (x8_1 + 1))) = some r := by first | (rw [hji9] at H; exact H) | (simp only [hji9] at H ⊢; exact H)
              have hji9_ : (IntKind.u64.wrap ((IntKind.u64.wrap (bt a0 x8_1)) * 2 ^ min (ji7).toNat 64)) = ji9 := hji9
              have hji9z : (ji7) ≤ 64 → (IntKind.u64.wrap ((IntKind.u64.wrap (bt a0 x8_1)) * 2 ^ (ji7).toNat)) = ji9 := shl_small hji9
              have H' := Aside0.mk H
              clear H
              have p6 : 0 ≤ (x8_1 : Int) := of_decide_eq_true (by first | (with_reducible assumption) | assumption)
              have q6 : x8_1 < (a0.size : Int) := of_decide_eq_true (by first | (with_reducible assumption) | assumption)
              have hx6 := bt_at a0 x8_1
              replace p6 := eq_true p6
              replace q6 := eq_true q6
              go_wp2
              go_roundg k1
              case measure => have := HK1.out; omega
              case rel => exact ⟨(Go.bits .or .u64 x3_1 (ji9)), (wrap64 (x8_1 + 1)), (by first | rfl | (simp; done) | (simp only [← hji9] <;> (first | rfl | simp)) | (simp [*]; done)), (by first | rfl | (simp; done) | (simp [*]; done)), H', ⟨by have := HK1.out; omega⟩, ⟨by repeat (first | (with_reducible first | exact HB.out | apply below_alloc | apply pw_below_drewN | apply below_drew1) | exact HB.out)⟩⟩
            · rw [if_neg c8] at H
              exact absurd H (by simp)
          · rw [if_neg c5] at H
            exact absurd H (by simp)
        · rw [if_neg c4] at H
          exact absurd H (by simp)
      · rw [if_neg c3] at H
        have c3b0 : decide (x8_1 < ji2) = false := decide_eq_false c3
        clear c3
        obtain rfl := Option.some.inj H
        go_wp2
        go_ret
        exact ⟨by first | rfl | (simp [errW_none, errW_some] <;> rfl) | (simp only [← hji2]; first | rfl | (simp [errW_none, errW_some] <;> rfl)) | (simp [*, errW_none, errW_some] <;> rfl), by repeat (first | (with_reducible first | exact HB.out | apply below_alloc | apply pw_below_drewN | apply below_drew1) | exact HB.out)⟩
def isa_form.f (a0 : Int) : Option (Int) := if a0 < 1 then (some 0) else (if (wrap64 (a0)) > 31 then (some 0) else (if 0 ≤ ((a0 - 1) % 256) then (if ((a0 - 1) % 256) < 31 then (some (bt (⟨#[114, 114, 114, 114, 114, 114, 114, 114, 114, 114, 114, 114, 114, 105, 105, 105, 105, 105, 108, 109, 109, 109, 109, 109, 105, 105, 105, 105, 108, 109, 110]⟩ : ByteArray) ((a0 - 1) % 256))) else (none)) else (none)))
set_option maxHeartbeats 8000000 in
set_option maxRecDepth 100000 in
theorem isa_form.calls (a0 : Int) (r : Int) (w : World) (h : isa_form.f a0 = some r) :
    Calls Tryd.prog 21 #[.int .u8 a0] w fun e w' => e = .returned (.int .u8 r) ∧ Drawn0 w w' := by
  have H : (if a0 < 1 then (some 0) else (if (wrap64 (a0)) > 31 then (some 0) else (if 0 ≤ ((a0 - 1) % 256) then (if ((a0 - 1) % 256) < 31 then (some (bt (⟨#[114, 114, 114, 114, 114, 114, 114, 114, 114, 114, 114, 114, 114, 105, 105, 105, 105, 105, 108, 109, 109, 109, 109, 109, 105, 105, 105, 105, 108, 109, 110]⟩ : ByteArray) ((a0 - 1) % 256))) else (none)) else (none)))) = some r := h
  clear h
  by_cases c2 : a0 < 1
  · rw [if_pos c2] at H
    have c2b0 : decide (a0 < 1) = true := decide_eq_true c2
    clear c2
    obtain rfl := Option.some.inj H
    go_enter Tryd.func21, Tryd.ntmps21
    go_wp2
    go_ret
    exact ⟨by first | rfl | (simp; done) | (simp [*]; done), by repeat (first | exact Drawn0.refl _ | apply Drawn0.step)⟩
  · rw [if_neg c2] at H
    have c2b0 : decide (a0 < 1) = false := decide_eq_false c2
    clear c2
    by_cases c3 : (wrap64 (a0)) > 31
    · rw [if_pos c3] at H
      have c3b0 : decide (31 < (wrap64 (a0))) = true := decide_eq_true c3
      clear c3
      obtain rfl := Option.some.inj H
      go_enter Tryd.func21, Tryd.ntmps21
      go_wp2
      go_ret
      exact ⟨by first | rfl | (simp; done) | (simp [*]; done), by repeat (first | exact Drawn0.refl _ | apply Drawn0.step)⟩
    · rw [if_neg c3] at H
      have c3b0 : decide (31 < (wrap64 (a0))) = false := decide_eq_false c3
      clear c3
      obtain ⟨ji4, hji4⟩ : ∃ j_ : Int, ((a0 - 1) % 256) = j_ := ⟨_, rfl⟩
      replace H : (if 0 ≤ (ji4) then (if (ji4) < 31 then (some (bt (⟨#[114, 114, 114, 114, 114, 114, 114, 114, 114, 114, 114, 114, 114, 105, 105, 105, 105, 105, 108, 109, 109, 109, 109, 109, 105, 105, 105, 105, 108, 109, 110]⟩ : ByteArray) (ji4))) else (none)) else (none)) = some r := by first | (rw [hji4] at H; exact H) | (simp only [hji4] at H ⊢; exact H)
      by_cases c5 : 0 ≤ (ji4)
      · rw [if_pos c5] at H
        have c5b0 : decide (0 ≤ (ji4)) = true := decide_eq_true c5
        clear c5
        by_cases c6 : (ji4) < 31
        · rw [if_pos c6] at H
          have c6b0 : decide ((ji4) < 31) = true := decide_eq_true c6
          clear c6
          obtain rfl := Option.some.inj H
          have p7 : 0 ≤ ((ji4) : Int) := of_decide_eq_true (by first | (with_reducible assumption) | assumption)
          have q7 : (ji4) < (31 : Int) := of_decide_eq_true (by first | (with_reducible assumption) | assumption)
          have hx7 := bt_at (⟨#[114, 114, 114, 114, 114, 114, 114, 114, 114, 114, 114, 114, 114, 105, 105, 105, 105, 105, 108, 109, 109, 109, 109, 109, 105, 105, 105, 105, 108, 109, 110]⟩ : ByteArray) (ji4)
          replace p7 := eq_true p7
          replace q7 := eq_true q7
          go_enter Tryd.func21, Tryd.ntmps21
          go_wp2
          go_ret
          exact ⟨by first | rfl | (simp; done) | (simp only [← hji4] <;> (first | rfl | simp)) | (simp [*]; done), by repeat (first | exact Drawn0.refl _ | apply Drawn0.step)⟩
        · rw [if_neg c6] at H
          exact absurd H (by simp)
      · rw [if_neg c5] at H
        exact absurd H (by simp)
def isa_has.f (a0 : Int) : Option (Bool × Bool × Bool × Bool) := if a0 = 114 then (some ((a0 != 110), true, (a0 == 114), (a0 != 114))) else (if a0 = 105 then (some ((a0 != 110), true, (a0 == 114), (a0 != 114))) else (some ((a0 != 110), (a0 == 109), (a0 == 114), (a0 != 114))))
set_option maxHeartbeats 8000000 in
set_option maxRecDepth 100000 in
theorem isa_has.calls (a0 : Int) (r1 : Bool) (r2 : Bool) (r3 : Bool) (r4 : Bool) (w : World) (h : isa_has.f a0 = some (r1, r2, r3, r4)) :
    Calls Tryd.prog 22 #[.int .u8 a0] w fun e w' => e = .returned (.tuple #[.bool r1, .bool r2, .bool r3, .bool r4]) ∧ Drawn0 w w' := by
  have H : (if a0 = 114 then (some ((a0 != 110), true, (a0 == 114), (a0 != 114))) else (if a0 = 105 then (some ((a0 != 110), true, (a0 == 114), (a0 != 114))) else (some ((a0 != 110), (a0 == 109), (a0 == 114), (a0 != 114))))) = some (r1, r2, r3, r4) := h
  clear h
  by_cases c2 : a0 = 114
  · rw [if_pos c2] at H
    have c2b0 : (a0 == 114) = true := beq_iff_eq.mpr c2
    have c2b1 : (a0 != 114) = false := bne_eq_false_iff_eq.mpr c2
    clear c2
    simp only [Option.some.injEq, Prod.mk.injEq] at H
    obtain ⟨rfl, rfl, rfl, rfl⟩ := H
    go_enter Tryd.func22, Tryd.ntmps22
    go_wp2
    refine bodyPost_ret (results_list (rs := [.tmp 2, .tmp 3, .tmp 4, .tmp 5]) rfl (by simp) (.tmp (.tmp (.tmp (.tmp .nil))))) rfl ?_
    exact ⟨by first | rfl | (simp; done) | (simp [*]; done), by repeat (first | exact Drawn0.refl _ | apply Drawn0.step)⟩
  · rw [if_neg c2] at H
    have c2b0 : (a0 == 114) = false := beq_eq_false_iff_ne.mpr c2
    have c2b1 : (a0 != 114) = true := bne_iff_ne.mpr c2
    by_cases c3 : a0 = 105
    · rw [if_pos c3] at H
      have c3b0 : (a0 == 105) = true := beq_iff_eq.mpr c3
      have c3b1 : (a0 != 105) = false := bne_eq_false_iff_eq.mpr c3
      clear c3
      simp only [Option.some.injEq, Prod.mk.injEq] at H
      obtain ⟨rfl, rfl, rfl, rfl⟩ := H
      go_enter Tryd.func22, Tryd.ntmps22
      go_wp2
      refine bodyPost_ret (results_list (rs := [.tmp 2, .tmp 3, .tmp 4, .tmp 5]) rfl (by simp) (.tmp (.tmp (.tmp (.tmp .nil))))) rfl ?_
      exact ⟨by first | rfl | (simp; done) | (simp [*]; done), by repeat (first | exact Drawn0.refl _ | apply Drawn0.step)⟩
    · rw [if_neg c3] at H
      have c3b0 : (a0 == 105) = false := beq_eq_false_iff_ne.mpr c3
      have c3b1 : (a0 != 105) = true := bne_iff_ne.mpr c3
      simp only [Option.some.injEq, Prod.mk.injEq] at H
      obtain ⟨rfl, rfl, rfl, rfl⟩ := H
      go_enter Tryd.func22, Tryd.ntmps22
      go_wp2
      refine bodyPost_ret (results_list (rs := [.tmp 2, .tmp 3, .tmp 4, .tmp 5]) rfl (by simp) (.tmp (.tmp (.tmp (.tmp .nil))))) rfl ?_
      exact ⟨by first | rfl | (simp; done) | (simp [*]; done), by repeat (first | exact Drawn0.refl _ | apply Drawn0.step)⟩
def isa_fits.f (a0 : Int) (a1 : Int) : Option (Bool) := (strings_IndexByte.f (⟨#[15, 16, 17, 19, 31]⟩ : ByteArray) a0).bind fun t103 => (if t103 ≥ 0 then (if a1 ≥ 0 then (some (decide (a1 ≤ 65535))) else (some false)) else (if a1 ≥ (-32768) then (some (decide (a1 ≤ 32767))) else (some false)))
set_option maxHeartbeats 8000000 in
set_option maxRecDepth 100000 in
theorem isa_fits.calls (a0 : Int) (a1 : Int) (r : Bool) (w : World) (h : isa_fits.f a0 a1 = some r) :
    Calls Tryd.prog 23 #[.int .u8 a0, .int .i32 a1] w fun e w' => e = .returned (.bool r) ∧ Drawn0 w w' := by
  have H : ((strings_IndexByte.f (⟨#[15, 16, 17, 19, 31]⟩ : ByteArray) a0).bind fun t103 => (if t103 ≥ 0 then (if a1 ≥ 0 then (some (decide (a1 ≤ 65535))) else (some false)) else (if a1 ≥ (-32768) then (some (decide (a1 ≤ 32767))) else (some false)))) = some r := h
  clear h
  replace H := Option.bind_eq_some_iff.mp H
  obtain ⟨t103, A30, H⟩ := H
  replace H : (if t103 ≥ 0 then (if a1 ≥ 0 then (some (decide (a1 ≤ 65535))) else (some false)) else (if a1 ≥ (-32768) then (some (decide (a1 ≤ 32767))) else (some false))) = some r := H
  have A3 := Aside0.mk A30
  clear A30
  by_cases c4 : t103 ≥ 0
  · rw [if_pos c4] at H
    have c4b0 : decide (0 ≤ t103) = true := decide_eq_true c4
    clear c4
    by_cases c5 : a1 ≥ 0
    · rw [if_pos c5] at H
      have c5b0 : decide (0 ≤ a1) = true := decide_eq_true c5
      clear c5
      obtain rfl := Option.some.inj H
      go_enter Tryd.func23, Tryd.ntmps23
      go_wp2_with (first | ((with_reducible refine gate_callee (f := 31) rfl ?_); refine goesL_ (some 6) rfl rfl Tryd.func31 (by kernel_rfl) rfl #[.string (⟨#[15, 16, 17, 19, 31]⟩ : ByteArray), .int .u8 a0] rfl (by (try simp only [List.map_toArray, List.map_cons, List.map_nil]); first | done | rfl | (simp only [List.length_drop, List.length_take]; rfl)) ?_; (with_reducible refine (strings_IndexByte.calls (⟨#[15, 16, 17, 19, 31]⟩ : ByteArray) a0 t103 _ A3.out).mono ?_); rintro e w' ⟨rfl, ⟨nd, rfl⟩⟩; refine ⟨_, rfl, ?_⟩))
      go_ret
      exact ⟨by first | rfl | (simp; done) | (simp [*]; done), by repeat (first | exact Drawn0.refl _ | apply Drawn0.step)⟩
    · rw [if_neg c5] at H
      have c5b0 : decide (0 ≤ a1) = false := decide_eq_false c5
      clear c5
      obtain rfl := Option.some.inj H
      go_enter Tryd.func23, Tryd.ntmps23
      go_wp2_with (first | ((with_reducible refine gate_callee (f := 31) rfl ?_); refine goesL_ (some 6) rfl rfl Tryd.func31 (by kernel_rfl) rfl #[.string (⟨#[15, 16, 17, 19, 31]⟩ : ByteArray), .int .u8 a0] rfl (by (try simp only [List.map_toArray, List.map_cons, List.map_nil]); first | done | rfl | (simp only [List.length_drop, List.length_take]; rfl)) ?_; (with_reducible refine (strings_IndexByte.calls (⟨#[15, 16, 17, 19, 31]⟩ : ByteArray) a0 t103 _ A3.out).mono ?_); rintro e w' ⟨rfl, ⟨nd, rfl⟩⟩; refine ⟨_, rfl, ?_⟩))
      go_ret
      exact ⟨by first | rfl | (simp; done) | (simp [*]; done), by repeat (first | exact Drawn0.refl _ | apply Drawn0.step)⟩
  · rw [if_neg c4] at H
    have c4b0 : decide (0 ≤ t103) = false := decide_eq_false c4
    clear c4
    by_cases c6 : a1 ≥ (-32768)
    · rw [if_pos c6] at H
      have c6b0 : decide ((-32768) ≤ a1) = true := decide_eq_true c6
      clear c6
      obtain rfl := Option.some.inj H
      go_enter Tryd.func23, Tryd.ntmps23
      go_wp2_with (first | ((with_reducible refine gate_callee (f := 31) rfl ?_); refine goesL_ (some 6) rfl rfl Tryd.func31 (by kernel_rfl) rfl #[.string (⟨#[15, 16, 17, 19, 31]⟩ : ByteArray), .int .u8 a0] rfl (by (try simp only [List.map_toArray, List.map_cons, List.map_nil]); first | done | rfl | (simp only [List.length_drop, List.length_take]; rfl)) ?_; (with_reducible refine (strings_IndexByte.calls (⟨#[15, 16, 17, 19, 31]⟩ : ByteArray) a0 t103 _ A3.out).mono ?_); rintro e w' ⟨rfl, ⟨nd, rfl⟩⟩; refine ⟨_, rfl, ?_⟩))
      go_ret
      exact ⟨by first | rfl | (simp; done) | (simp [*]; done), by repeat (first | exact Drawn0.refl _ | apply Drawn0.step)⟩
    · rw [if_neg c6] at H
      have c6b0 : decide ((-32768) ≤ a1) = false := decide_eq_false c6
      clear c6
      obtain rfl := Option.some.inj H
      go_enter Tryd.func23, Tryd.ntmps23
      go_wp2_with (first | ((with_reducible refine gate_callee (f := 31) rfl ?_); refine goesL_ (some 6) rfl rfl Tryd.func31 (by kernel_rfl) rfl #[.string (⟨#[15, 16, 17, 19, 31]⟩ : ByteArray), .int .u8 a0] rfl (by (try simp only [List.map_toArray, List.map_cons, List.map_nil]); first | done | rfl | (simp only [List.length_drop, List.length_take]; rfl)) ?_; (with_reducible refine (strings_IndexByte.calls (⟨#[15, 16, 17, 19, 31]⟩ : ByteArray) a0 t103 _ A3.out).mono ?_); rintro e w' ⟨rfl, ⟨nd, rfl⟩⟩; refine ⟨_, rfl, ?_⟩))
      go_ret
      exact ⟨by first | rfl | (simp; done) | (simp [*]; done), by repeat (first | exact Drawn0.refl _ | apply Drawn0.step)⟩
end Go.Proofs.YtiklcpacbclpnaaDoor.P
end
section
set_option linter.unusedVariables false
set_option linter.unusedSimpArgs false
namespace Go.Proofs.YtiklcpacbclpnaaDoor.P
open Go.RowKit Go.Proofs.YtiklcpacbclpnaaDoorW.PrintWords Go.Proofs.YtiklcpacbclpnaaDoorW.PrintLast Go.Proofs.YtiklcpacbclpnaaDoorW.PrintMore
attribute [local go_sem] isSome_setCell_eq
structure Pg where
  is : Bool
  wr : Bool
  fr : Int
def pgs (s : List Pg) : List Value := s.flatMap fun p => [.bool p.is, .bool p.wr, .int .i64 p.fr]
def spv (s : List Pg) : Array Value := (pgs s).toArray
theorem pgs_at : ∀ (s : List Pg) (i : Nat) (p : Pg), s[i]? = some p → (pgs s)[3 * i]? = some (.bool p.is) ∧ (pgs s)[3 * i + 1]? = some (.bool p.wr) ∧ (pgs s)[3 * i + 2]? = some (.int .i64 p.fr)
  | [], i, p, h => by simp at h
  | q :: s, 0, p, h => by
    obtain rfl : q = p := by simpa using h
    exact ⟨rfl, rfl, rfl⟩
  | q :: s, i + 1, p, h => by
    have ih := pgs_at s i p (by simpa using h)
    have e : pgs (q :: s) = .bool q.is :: .bool q.wr :: .int .i64 q.fr :: pgs s := rfl
    rw [e, show 3 * (i + 1) = 3 * i + 3 by omega, show 3 * i + 3 + 1 = 3 * i + 1 + 3 by omega, show 3 * i + 3 + 2 = 3 * i + 2 + 3 by omega]
    simpa using ih
def entry (p : Pg) (at1 : Int) (wr : Bool) : Int × Int × Bool := if (p.is && (!wr || p.wr)) = true then (p.fr, at1 % 128, true) else (0, 0, false)
set_option maxHeartbeats 8000000 in
set_option maxRecDepth 100000 in
theorem find_page (s : List Pg) (at1 sz : Int) (wr : Bool) (w : World) (p : Pg) (hs : s.length = 16) (h0 : 0 ≤ at1) (h1 : at1 < 2048) (hz : sz = 1 ∨ sz = 4) (hm : at1 % sz = 0) (hp : s[(at1 / 128).toNat]? = some p) :
    Calls Tryd.prog 28 #[.agg (spv s), .int .u32 at1, .int .i64 sz, .bool wr] w fun e w' => e = .returned (.tuple #[.int .i64 (entry p at1 wr).1, .int .i64 (entry p at1 wr).2.1, .bool (entry p at1 wr).2.2]) ∧ Below w.heap.size w w' := by
  have HB := Aside0.mk (Below.refl w.heap.size w)
  have hu27 := Tryd.underlying27
  obtain ⟨j, hj⟩ : ∃ j : Nat, at1 / 128 = (j : Int) := ⟨(at1 / 128).toNat, by omega⟩
  have hj16 : j < 16 := by omega
  rw [hj, Int.toNat_natCast] at hp
  obtain ⟨q0, q1, q2⟩ := pgs_at s j p hp
  have Q0 : Aside0 ((spv s)[j * 3]? = some (.bool p.is)) := ⟨by rw [← q0, Nat.mul_comm]; simp [spv]⟩
  have Q1 : Aside0 ((spv s)[j * 3 + 1]? = some (.bool p.wr)) := ⟨by rw [← q1, Nat.mul_comm]; simp [spv]⟩
  have Q2 : Aside0 ((spv s)[j * 3 + 2]? = some (.int .i64 p.fr)) := ⟨by rw [← q2, Nat.mul_comm]; simp [spv]⟩
  clear hp q0 q1 q2
  have b1 : (at1 ≥ 2048) = False := eq_false (by omega)
  have b2 : decide (at1 ≥ 2048) = false := decide_eq_false (by omega)
  have b3 : decide (2048 ≤ at1) = false := decide_eq_false (by omega)
  obtain ⟨pis, pwr, pfr⟩ := p
  dsimp only at Q0 Q1 Q2
  rcases hz with rfl | rfl <;> cases pis <;> cases pwr <;> cases wr
  all_goals go_enter Tryd.func28, Tryd.ntmps28
  all_goals (go_wp2_with (first | ((with_reducible refine gate_dst (N := 4) rfl ?_); refine box_event ?hg (N := 4) ?hd (cs := spv s) (t := 29) ?hr ?_; (case hd => rfl); (case hg => rfl); (case hr => first | (go_simp; done) | (go_simp; rfl)); intro gb hg w1 hbox hb; have n0_ := Aside0.mk (below_step HB.out hb); clear HB; have HB := n0_; clear n0_; have z0 := (blk_cell hbox (j * 3)).trans Q0.out; have z1 := (blk_cell hbox (j * 3 + 1)).trans Q1.out; have z2 := (blk_cell hbox (j * 3 + 2)).trans Q2.out; have y0 := blk_frozen hbox (j * 3); clear hbox hb hg) | ((with_reducible refine gate_dst (N := 11) rfl ?_); refine box_event ?hg (N := 11) ?hd (cs := #[.bool false, .bool false, .int .i64 0]) (t := 27) ?hr ?_; (case hd => rfl); (case hg => rfl); (case hr => first | (go_simp; done) | (go_simp; rfl)); intro gc hg w2 hbox hb; have GC := Aside0.mk (by rw [hg]; exact below_size HB.out : w.heap.size ≤ gc); have n0_ := Aside0.mk (below_step HB.out hb); clear HB; have HB := n0_; clear n0_; have x0 : w2.cell? ⟨gc, 0, none⟩ = some (.bool false) := (blk_cell hbox 0).trans rfl; have x1 : w2.cell? ⟨gc, 1, none⟩ = some (.bool false) := (blk_cell hbox 1).trans rfl; have x2 : w2.cell? ⟨gc, 2, none⟩ = some (.int .i64 0) := (blk_cell hbox 2).trans rfl; have f0 := blk_frozen hbox 0; have f1 := blk_frozen hbox 1; have f2 := blk_frozen hbox 2; clear hbox hb hg)))
  all_goals refine bodyPost_ret (results_list (rs := [.tmp 8, .tmp 9, .tmp 10]) rfl (by simp) (.tmp (.tmp (.tmp .nil)))) rfl ?_
  all_goals exact ⟨by first | exact rfl | (simp [entry]; done) | (with_unfolding_all exact rfl), by repeat (first | (with_reducible first | exact HB.out | apply below_alloc | apply pw_below_drewN | apply below_drew1 | refine below_set ?_ GC.out) | exact HB.out)⟩
end Go.Proofs.YtiklcpacbclpnaaDoor.P
end
section
set_option linter.unusedVariables false
set_option linter.unusedSimpArgs false
namespace Go.Proofs.YtiklcpacbclpnaaDoor.P
open Go.RowKit Go.Proofs.YtiklcpacbclpnaaDoorW.PrintWords Go.Proofs.YtiklcpacbclpnaaDoorW.PrintLast Go.Proofs.YtiklcpacbclpnaaDoorW.PrintMore
attribute [local go_sem] isSome_setCell_eq
set_option maxHeartbeats 8000000 in
set_option maxRecDepth 100000 in
theorem find_far (s : List Pg) (at1 sz : Int) (wr : Bool) (w : World) (h1 : at1 ≥ 2048) (hz : sz = 1 ∨ sz = 4) :
    Calls Tryd.prog 28 #[.agg (spv s), .int .u32 at1, .int .i64 sz, .bool wr] w fun e w' => e = .returned (.tuple #[.int .i64 0, .int .i64 0, .bool false]) ∧ Below w.heap.size w w' := by
  have HB := Aside0.mk (Below.refl w.heap.size w)
  have b2 : decide (at1 ≥ 2048) = true := decide_eq_true (by omega)
  have b3 : decide (2048 ≤ at1) = true := decide_eq_true (by omega)
  rcases hz with rfl | rfl
  all_goals go_enter Tryd.func28, Tryd.ntmps28
  all_goals (go_wp2_with (first | ((with_reducible refine gate_dst (N := 4) rfl ?_); refine box_event ?hg (N := 4) ?hd (cs := spv s) (t := 29) ?hr ?_; (case hd => rfl); (case hg => rfl); (case hr => first | (go_simp; done) | (go_simp; rfl)); intro gb hg w1 hbox hb; have n0_ := Aside0.mk (below_step HB.out hb); clear HB; have HB := n0_; clear n0_; clear hbox hb hg)))
  all_goals refine bodyPost_ret (results_list (rs := [.tmp 8, .tmp 9, .tmp 10]) rfl (by simp) (.tmp (.tmp (.tmp .nil)))) rfl ?_
  all_goals exact ⟨by first | exact rfl | (with_unfolding_all exact rfl), by repeat (first | (with_reducible first | exact HB.out | apply below_alloc | apply pw_below_drewN | apply below_drew1) | exact HB.out)⟩
set_option maxHeartbeats 8000000 in
set_option maxRecDepth 100000 in
theorem find_odd (s : List Pg) (at1 : Int) (wr : Bool) (w : World) (h0 : 0 ≤ at1) (h1 : at1 < 2048) (hm : ¬ at1 % 4 = 0) :
    Calls Tryd.prog 28 #[.agg (spv s), .int .u32 at1, .int .i64 4, .bool wr] w fun e w' => e = .returned (.tuple #[.int .i64 0, .int .i64 0, .bool false]) ∧ Below w.heap.size w w' := by
  have HB := Aside0.mk (Below.refl w.heap.size w)
  have b2 : decide (at1 ≥ 2048) = false := decide_eq_false (by omega)
  have b3 : decide (2048 ≤ at1) = false := decide_eq_false (by omega)
  have b4 : (at1 % 4 != 0) = true := bne_iff_ne.2 hm
  have b5 : (at1 % 4 == 0) = false := beq_eq_false_iff_ne.2 hm
  go_enter Tryd.func28, Tryd.ntmps28
  all_goals (go_wp2_with (first | ((with_reducible refine gate_dst (N := 4) rfl ?_); refine box_event ?hg (N := 4) ?hd (cs := spv s) (t := 29) ?hr ?_; (case hd => rfl); (case hg => rfl); (case hr => first | (go_simp; done) | (go_simp; rfl)); intro gb hg w1 hbox hb; have n0_ := Aside0.mk (below_step HB.out hb); clear HB; have HB := n0_; clear n0_; clear hbox hb hg)))
  all_goals refine bodyPost_ret (results_list (rs := [.tmp 8, .tmp 9, .tmp 10]) rfl (by simp) (.tmp (.tmp (.tmp .nil)))) rfl ?_
  all_goals exact ⟨by first | exact rfl | (with_unfolding_all exact rfl), by repeat (first | (with_reducible first | exact HB.out | apply below_alloc | apply pw_below_drewN | apply below_drew1) | exact HB.out)⟩
def findT (s : List Pg) (at1 sz : Int) (wr : Bool) : Int × Int × Bool :=
  if at1 ≥ 2048 then (0, 0, false) else if at1 % sz ≠ 0 then (0, 0, false) else entry (s.getD (at1 / 128).toNat ⟨false, false, 0⟩) at1 wr
theorem find_calls (s : List Pg) (at1 sz : Int) (wr : Bool) (w : World) (hs : s.length = 16) (h0 : 0 ≤ at1) (hz : sz = 1 ∨ sz = 4) :
    Calls Tryd.prog 28 #[.agg (spv s), .int .u32 at1, .int .i64 sz, .bool wr] w fun e w' => e = .returned (.tuple #[.int .i64 (findT s at1 sz wr).1, .int .i64 (findT s at1 sz wr).2.1, .bool (findT s at1 sz wr).2.2]) ∧ Below w.heap.size w w' := by
  unfold findT
  by_cases h1 : at1 ≥ 2048
  · rw [if_pos h1]; exact find_far s at1 sz wr w h1 hz
  · rw [if_neg h1]
    by_cases h2 : at1 % sz ≠ 0
    · rw [if_pos h2]
      rcases hz with rfl | rfl
      · omega
      · exact find_odd s at1 wr w h0 (by omega) h2
    · rw [if_neg h2]
      have hl : (at1 / 128).toNat < s.length := by omega
      have e := List.getElem?_eq_getElem hl
      have e2 : s.getD (at1 / 128).toNat ⟨false, false, 0⟩ = s[(at1 / 128).toNat] := by rw [List.getD_eq_getElem?_getD, e]; rfl
      rw [e2]
      exact find_page s at1 sz wr w _ hs h0 (by omega) hz (by omega) e
end Go.Proofs.YtiklcpacbclpnaaDoor.P
end
section
set_option linter.unusedVariables false
set_option linter.unusedSimpArgs false
namespace Go.Proofs.YtiklcpacbclpnaaDoor.P
open Go.RowKit Go.Proofs.YtiklcpacbclpnaaDoorW.PrintWords Go.Proofs.YtiklcpacbclpnaaDoorW.PrintLast Go.Proofs.YtiklcpacbclpnaaDoorW.PrintMore
attribute [local go_sem] isSome_setCell_eq
theorem pgs_length : ∀ s : List Pg, (pgs s).length = 3 * s.length
  | [] => rfl
  | p :: s => by
    have e : pgs (p :: s) = .bool p.is :: .bool p.wr :: .int .i64 p.fr :: pgs s := rfl
    rw [e]; simp [pgs_length s]; omega
theorem spv_size {s : List Pg} (hs : s.length = 16) : (spv s).size = 48 := by unfold spv; rw [List.size_toArray, pgs_length, hs]
theorem space_info {s : List Pg} (hs : s.length = 16) : (Tryd.prog.info? 29).map (·.size) = some (spv s).size := by rw [spv_size hs]; kernel_rfl
set_option maxHeartbeats 8000000 in
set_option maxRecDepth 100000 in
theorem load_none (A : Option Addr) (c : Nat) (l : List ByteArray) (s : List Pg) (at1 sz : Int) (w : World) (hs : s.length = 16) (h0 : 0 ≤ at1) (hz : sz = 1 ∨ sz = 4) (hf : (findT s at1 sz false).2.2 = false) :
    Calls Tryd.prog 13 #[.slice A l.length c, .agg (spv s), .int .u32 at1, .int .i64 sz] w fun e w' => e = .returned (.tuple #[.int .u32 0, .bool false]) ∧ Below w.heap.size w w' := by
  have HB := Aside0.mk (Below.refl w.heap.size w)
  have hu29 := Tryd.underlying29
  have F := fun w => find_calls s at1 sz false w hs h0 hz
  rw [hf] at F
  generalize (findT s at1 sz false).1 = f1 at F
  generalize (findT s at1 sz false).2.1 = f2 at F
  have FA := Aside0.mk F
  clear F hf
  go_enter Tryd.func13, Tryd.ntmps13
  go_wp2_with (first | ((with_reducible refine gate_dst (N := 5) rfl ?_); refine box_event ?hg (N := 5) ?hd (cs := spv s) (t := 29) ?hr ?_; (case hd => rfl); (case hg => rfl); (case hr => first | (go_simp; done) | (go_simp; rfl)); intro gb hg w1 hbox hb; have n0_ := Aside0.mk (below_step HB.out hb); clear HB; have HB := n0_; clear n0_; have BK := Aside0.mk hbox; clear hbox hb hg) | ((with_reducible refine gate_dst (N := 14) rfl ?_); refine wpList_load_row rfl 29 (.tmp 5) rfl gb rfl 29 (spv s) (0, 0) _ BK.out Tryd.underlying29 rfl (space_info hs) ?_) | ((with_reducible refine gate_callee (f := 28) rfl ?_); refine goesL_ (some 17) rfl rfl Tryd.func28 (by kernel_rfl) rfl #[.agg (spv s), .int .u32 at1, .int .i64 sz, .bool false] rfl (by (try simp only [List.map_toArray, List.map_cons, List.map_nil]); first | done | rfl) ?_; refine (FA.out _).mono ?_; rintro e w2 ⟨rfl, hb⟩; refine ⟨_, rfl, ?_⟩; have n0_ := Aside0.mk (below_step HB.out hb); clear HB; have HB := n0_; clear n0_; clear hb BK))
  refine bodyPost_ret (results_list (rs := [.tmp 8, .tmp 9]) rfl (by simp) (.tmp (.tmp .nil))) rfl ?_
  exact ⟨by first | exact rfl | (with_unfolding_all exact rfl), HB.out⟩
end Go.Proofs.YtiklcpacbclpnaaDoor.P
end
section
set_option linter.unusedVariables false
set_option linter.unusedSimpArgs false
namespace Go.Proofs.YtiklcpacbclpnaaDoor.P
open Go.RowKit Go.Proofs.YtiklcpacbclpnaaDoorW.PrintWords Go.Proofs.YtiklcpacbclpnaaDoorW.PrintLast Go.Proofs.YtiklcpacbclpnaaDoorW.PrintMore
attribute [local go_sem] isSome_setCell_eq
set_option maxHeartbeats 8000000 in
set_option maxRecDepth 100000 in
theorem load_gone (A : Option Addr) (c : Nat) (l : List ByteArray) (s : List Pg) (at1 sz : Int) (w : World) (hr : Kd.C Kd.string w A l.length l) (hc : l.length ≤ c) (hs : s.length = 16) (h0 : 0 ≤ at1) (hz : sz = 1 ∨ sz = 4) (hf : (findT s at1 sz false).2.2 = true) (ht : mmu_there.f l (findT s at1 sz false).1 = some false) :
    Calls Tryd.prog 13 #[.slice A l.length c, .agg (spv s), .int .u32 at1, .int .i64 sz] w fun e w' => e = .returned (.tuple #[.int .u32 0, .bool false]) ∧ Below w.heap.size w w' := by
  have HB := Aside0.mk (Below.refl w.heap.size w)
  have HR := Aside0.mk hr
  have HC := Aside0.mk hc
  have F := fun w => find_calls s at1 sz false w hs h0 hz
  rw [hf] at F
  revert ht F
  generalize (findT s at1 sz false).1 = f1
  generalize (findT s at1 sz false).2.1 = f2
  intro ht F
  have FA := Aside0.mk F
  have TA := Aside0.mk ht
  clear F hf ht hr hc
  go_enter Tryd.func13, Tryd.ntmps13
  go_wp2_with (first | ((with_reducible refine gate_dst (N := 5) rfl ?_); refine box_event ?hg (N := 5) ?hd (cs := spv s) (t := 29) ?hr ?_; (case hd => rfl); (case hg => rfl); (case hr => first | (go_simp; done) | (go_simp; rfl)); intro gb hg w1 hbox hb; have n0_ := Aside0.mk (below_step HB.out hb); have n1_ := Aside0.mk (Kd.C_below HR.out hb); clear HB HR; have HB := n0_; have HR := n1_; clear n0_ n1_; have BK := Aside0.mk hbox; clear hbox hb hg) | ((with_reducible refine gate_dst (N := 14) rfl ?_); refine wpList_load_row rfl 29 (.tmp 5) rfl gb rfl 29 (spv s) (0, 0) _ BK.out Tryd.underlying29 rfl (space_info hs) ?_) | ((with_reducible refine gate_callee (f := 28) rfl ?_); refine goesL_ (some 17) rfl rfl Tryd.func28 (by kernel_rfl) rfl #[.agg (spv s), .int .u32 at1, .int .i64 sz, .bool false] rfl (by (try simp only [List.map_toArray, List.map_cons, List.map_nil]); first | done | rfl) ?_; refine (FA.out _).mono ?_; rintro e w2 ⟨rfl, hb⟩; refine ⟨_, rfl, ?_⟩; have n0_ := Aside0.mk (below_step HB.out hb); have n1_ := Aside0.mk (Kd.C_below HR.out hb); clear HB HR; have HB := n0_; have HR := n1_; clear n0_ n1_; clear hb BK) | (go_at_call 29; (with_reducible refine (mmu_there.calls A c l f1 false _ HR.out HC.out TA.out).mono ?_); rintro e w' ⟨rfl, ⟨nd, rfl⟩⟩) | ((with_reducible refine gate_callee (f := 29) rfl ?_); refine goesL_ (some 26) rfl rfl Tryd.func29 (by kernel_rfl) rfl #[.slice A l.length c, .int .i64 f1] rfl (by (try simp only [List.map_toArray, List.map_cons, List.map_nil]); first | done | rfl) ?_; (with_reducible refine (mmu_there.calls A c l f1 false _ HR.out HC.out TA.out).mono ?_); rintro e w' ⟨rfl, ⟨nd, rfl⟩⟩; refine ⟨_, rfl, ?_⟩))
  refine bodyPost_ret (results_list (rs := [.tmp 8, .tmp 9]) rfl (by simp) (.tmp (.tmp .nil))) rfl ?_
  exact ⟨by first | exact rfl | (with_unfolding_all exact rfl), by repeat (first | (with_reducible first | exact HB.out | apply below_alloc | apply pw_below_drewN | apply below_drew1) | exact HB.out)⟩
end Go.Proofs.YtiklcpacbclpnaaDoor.P
end
section
set_option linter.unusedVariables false
set_option linter.unusedSimpArgs false
namespace Go.Proofs.YtiklcpacbclpnaaDoor.P
open Go.RowKit Go.Proofs.YtiklcpacbclpnaaDoorW.PrintWords Go.Proofs.YtiklcpacbclpnaaDoorW.PrintLast Go.Proofs.YtiklcpacbclpnaaDoorW.PrintMore
attribute [local go_sem] isSome_setCell_eq
set_option maxHeartbeats 8000000 in
set_option maxRecDepth 100000 in
theorem load_there (A : Option Addr) (c : Nat) (l : List ByteArray) (s : List Pg) (at1 sz : Int) (w : World) (hr : Kd.C Kd.string w A l.length l) (hc : l.length ≤ c) (hs : s.length = 16) (h0 : 0 ≤ at1) (hz : sz = 1 ∨ sz = 4) (hf : (findT s at1 sz false).2.2 = true) (ht : mmu_there.f l (findT s at1 sz false).1 = some true) (f0 : 0 ≤ (findT s at1 sz false).1) (f1 : (findT s at1 sz false).1 < (l.length : Int)) (k0 : 0 ≤ (findT s at1 sz false).2.1) (k1 : (findT s at1 sz false).2.1 + sz ≤ 128)
    (hd : (rdOf ByteArray.empty l (findT s at1 sz false).1).size = 128) (kk : Nat) (r : Int) (hg : num_Get.f kk ((rdOf ByteArray.empty l (findT s at1 sz false).1).extract (findT s at1 sz false).2.1.toNat ((findT s at1 sz false).2.1 + sz).toNat) = some r) :
    Calls Tryd.prog 13 #[.slice A l.length c, .agg (spv s), .int .u32 at1, .int .i64 sz] w fun e w' => e = .returned (.tuple #[.int .u32 (IntKind.u32.wrap r), .bool true]) ∧ Below w.heap.size w w' := by
  have HB := Aside0.mk (Below.refl w.heap.size w)
  have HR := Aside0.mk hr
  have HC := Aside0.mk hc
  have F := fun w => find_calls s at1 sz false w hs h0 hz
  rw [hf] at F
  revert ht F f0 f1 k0 k1 hd hg
  generalize (findT s at1 sz false).1 = f1
  generalize (findT s at1 sz false).2.1 = f2
  intro ht p0 q0 k0 k1 hd hg F
  have GA := Aside0.mk hg
  have HD := Aside0.mk hd
  have w1 : wrap64 (f2 + sz) = f2 + sz := by unfold wrap64; rcases hz with rfl | rfl <;> omega
  have z1 : f2 ≤ f2 + sz := by rcases hz with rfl | rfl <;> omega
  have z2 : f2 + sz ≤ ((rdOf ByteArray.empty l f1).size : Int) := by rw [hd]; exact k1
  have FA := Aside0.mk F
  have TA := Aside0.mk ht
  clear F hf ht hr hc hg hd k1 hz
  obtain ⟨e2, he2⟩ : ∃ e2, wrap64 (f2 + sz) = e2 := ⟨_, rfl⟩
  obtain ⟨e3, he3⟩ : ∃ e3, f2 + sz = e3 := ⟨_, rfl⟩
  rw [w1, he3] at he2
  subst he2
  rw [he3] at z1 z2 w1 GA
  obtain ⟨ad, eA, _⟩ := Kd.at_string HR.out f1 p0 q0
  cases eA
  replace p0 := eq_true p0
  replace q0 := eq_true q0
  replace k0 := eq_true k0
  replace z1 := eq_true z1
  replace z2 := eq_true z2
  go_enter Tryd.func13, Tryd.ntmps13
  go_wp2_with (first | ((with_reducible refine gate_dst (N := 5) rfl ?_); refine box_event ?hg (N := 5) ?hd (cs := spv s) (t := 29) ?hr ?_; (case hd => rfl); (case hg => rfl); (case hr => first | (go_simp; done) | (go_simp; rfl)); intro gb hg w1 hbox hb; have n0_ := Aside0.mk (below_step HB.out hb); have n1_ := Aside0.mk (Kd.C_below HR.out hb); clear HB HR; have HB := n0_; have HR := n1_; clear n0_ n1_; have BK := Aside0.mk hbox; clear hbox hb hg) | ((with_reducible refine gate_dst (N := 14) rfl ?_); refine wpList_load_row rfl 29 (.tmp 5) rfl gb rfl 29 (spv s) (0, 0) _ BK.out Tryd.underlying29 rfl (space_info hs) ?_) | ((with_reducible refine gate_callee (f := 28) rfl ?_); refine goesL_ (some 17) rfl rfl Tryd.func28 (by kernel_rfl) rfl #[.agg (spv s), .int .u32 at1, .int .i64 sz, .bool false] rfl (by (try simp only [List.map_toArray, List.map_cons, List.map_nil]); first | done | rfl) ?_; refine (FA.out _).mono ?_; rintro e w2 ⟨rfl, hb⟩; refine ⟨_, rfl, ?_⟩; have n0_ := Aside0.mk (below_step HB.out hb); have n1_ := Aside0.mk (Kd.C_below HR.out hb); clear HB HR; have HB := n0_; have HR := n1_; clear n0_ n1_; obtain ⟨_, e_, hx⟩ := Kd.at_string HR.out f1 (of_eq_true p0) (of_eq_true q0); cases e_; clear hb BK) | (go_at_call 29; (with_reducible refine (mmu_there.calls (some ad) c l f1 true _ HR.out HC.out TA.out).mono ?_); rintro e w' ⟨rfl, ⟨nd, rfl⟩⟩) | ((with_reducible refine gate_callee (f := 29) rfl ?_); refine goesL_ (some 26) rfl rfl Tryd.func29 (by kernel_rfl) rfl #[.slice (some ad) l.length c, .int .i64 f1] rfl (by (try simp only [List.map_toArray, List.map_cons, List.map_nil]); first | done | rfl) ?_; (with_reducible refine (mmu_there.calls (some ad) c l f1 true _ HR.out HC.out TA.out).mono ?_); rintro e w' ⟨rfl, ⟨nd, rfl⟩⟩; refine ⟨_, rfl, ?_⟩) | ((with_reducible refine gate_callee (f := 30) rfl ?_); refine goesL_ (some 38) rfl rfl Tryd.func30 (by kernel_rfl) rfl #[.string ((rdOf ByteArray.empty l f1).extract f2.toNat e3.toNat)] rfl (by (try simp only [List.map_toArray, List.map_cons, List.map_nil]); first | done | rfl) ?_; (with_reducible refine (num_Get.calls kk _ r _ GA.out).mono ?_); rintro e w' ⟨rfl, hb⟩; refine ⟨_, rfl, ?_⟩; have n0_ := Aside0.mk (below_step (pw_below_drewN HB.out _) hb); clear HB; have HB := n0_; clear n0_ hb))
  refine bodyPost_ret (results_list (rs := [.tmp 8, .tmp 9]) rfl (by simp) (.tmp (.tmp .nil))) rfl ?_
  exact ⟨by first | exact rfl | (with_unfolding_all exact rfl), by repeat (first | (with_reducible first | exact HB.out | apply below_alloc | apply pw_below_drewN | apply below_drew1) | exact HB.out)⟩
end Go.Proofs.YtiklcpacbclpnaaDoor.P
end
section
set_option linter.unusedVariables false
set_option linter.unusedSimpArgs false
namespace Go.Proofs.YtiklcpacbclpnaaDoor.P
open Go.RowKit Go.Proofs.YtiklcpacbclpnaaDoorW.PrintWords Go.Proofs.YtiklcpacbclpnaaDoorW.PrintLast Go.Proofs.YtiklcpacbclpnaaDoorW.PrintMore
def thereB (l : List ByteArray) (f : Int) : Bool := decide (0 ≤ f ∧ f < (l.length : Int) ∧ (rdOf ByteArray.empty l f).size = 128)
theorem there_eq (l : List ByteArray) (f : Int) : mmu_there.f l f = some (thereB l f) := by
  unfold mmu_there.f thereB
  by_cases h0 : f ≥ 0
  · rw [if_pos h0]
    by_cases h1 : f < (l.length : Int)
    · rw [if_pos h1, if_pos h0]
      congr 1
      by_cases h2 : (rdOf ByteArray.empty l f).size = 128
      · rw [h2, decide_eq_true ⟨h0, h1, rfl⟩]; rfl
      · rw [decide_eq_false (by rintro ⟨_, _, h⟩; exact h2 h), beq_eq_false_iff_ne]
        omega
    · rw [if_neg h1, decide_eq_false (by rintro ⟨_, h, _⟩; exact h1 h)]
  · rw [if_neg h0, decide_eq_false (by rintro ⟨h, _, _⟩; exact h0 h)]
theorem findT_in {s : List Pg} {at1 sz : Int} {wr : Bool} (h0 : 0 ≤ at1) (hz : sz = 1 ∨ sz = 4) (h : (findT s at1 sz wr).2.2 = true) :
    (findT s at1 sz wr).2.1 = at1 % 128 ∧ 0 ≤ (findT s at1 sz wr).2.1 ∧ (findT s at1 sz wr).2.1 + sz ≤ 128 := by
  unfold findT at h ⊢
  by_cases h1 : at1 ≥ 2048
  · rw [if_pos h1] at h; cases h
  rw [if_neg h1] at h ⊢
  by_cases h2 : at1 % sz ≠ 0
  · rw [if_pos h2] at h; cases h
  rw [if_neg h2] at h ⊢
  unfold entry at h ⊢
  split at h
  · rename_i h3
    rw [if_pos h3]
    refine ⟨rfl, ?_, ?_⟩
    · show 0 ≤ at1 % 128; omega
    · show at1 % 128 + sz ≤ 128
      rcases hz with rfl | rfl <;> omega
  · cases h
def loadT (G : ByteArray → Int) (l : List ByteArray) (s : List Pg) (at1 sz : Int) : Int × Bool :=
  if (findT s at1 sz false).2.2 = true ∧ thereB l (findT s at1 sz false).1 = true then
    (IntKind.u32.wrap (G ((rdOf ByteArray.empty l (findT s at1 sz false).1).extract (findT s at1 sz false).2.1.toNat ((findT s at1 sz false).2.1 + sz).toNat)), true)
  else (0, false)
theorem load_calls (G : ByteArray → Int) (hG : ∀ b : ByteArray, b.size ≤ 8 → ∃ k, num_Get.f k b = some (G b)) (A : Option Addr) (c : Nat) (l : List ByteArray) (s : List Pg) (at1 sz : Int) (w : World) (hr : Kd.C Kd.string w A l.length l) (hc : l.length ≤ c) (hs : s.length = 16) (h0 : 0 ≤ at1) (hz : sz = 1 ∨ sz = 4) :
    Calls Tryd.prog 13 #[.slice A l.length c, .agg (spv s), .int .u32 at1, .int .i64 sz] w fun e w' => e = .returned (.tuple #[.int .u32 (loadT G l s at1 sz).1, .bool (loadT G l s at1 sz).2]) ∧ Below w.heap.size w w' := by
  unfold loadT
  by_cases hf : (findT s at1 sz false).2.2 = true
  · by_cases ht : thereB l (findT s at1 sz false).1 = true
    · rw [if_pos ⟨hf, ht⟩]
      have hT := there_eq l (findT s at1 sz false).1
      rw [ht] at hT
      unfold thereB at ht
      obtain ⟨f0, f1, hd⟩ := of_decide_eq_true ht
      obtain ⟨_, k0, k1⟩ := findT_in h0 hz hf
      obtain ⟨kk, hg⟩ := hG ((rdOf ByteArray.empty l (findT s at1 sz false).1).extract (findT s at1 sz false).2.1.toNat ((findT s at1 sz false).2.1 + sz).toNat) (by rw [ByteArray.size_extract]; rcases hz with rfl | rfl <;> omega)
      exact load_there A c l s at1 sz w hr hc hs h0 hz hf hT f0 f1 k0 k1 hd kk _ hg
    · rw [if_neg (by rintro ⟨_, h⟩; exact ht h)]
      have hT := there_eq l (findT s at1 sz false).1
      rw [Bool.eq_false_iff.2 ht] at hT
      exact load_gone A c l s at1 sz w hr hc hs h0 hz hf hT
  · rw [if_neg (by rintro ⟨h, _⟩; exact hf h)]
    exact load_none A c l s at1 sz w hs h0 hz (Bool.eq_false_iff.2 hf)
end Go.Proofs.YtiklcpacbclpnaaDoor.P
end
section
set_option linter.unusedVariables false
set_option linter.unusedSimpArgs false
namespace Go.Proofs.YtiklcpacbclpnaaDoor.P
open Go.RowKit Go.Proofs.YtiklcpacbclpnaaDoorW.PrintWords Go.Proofs.YtiklcpacbclpnaaDoorW.PrintLast Go.Proofs.YtiklcpacbclpnaaDoorW.PrintMore
attribute [local go_sem] isSome_setCell_eq
def cloadT (G : ByteArray → Int) (op : Int) (l : List ByteArray) (s : List Pg) (at1 : Int) : Int × Bool :=
  if op = 20 then loadT G l s at1 4 else if op = 21 then (wrap32 (IntKind.i8.wrap (loadT G l s at1 1).1) % 4294967296, (loadT G l s at1 1).2) else loadT G l s at1 1
set_option maxHeartbeats 8000000 in
set_option maxRecDepth 100000 in
theorem cload_calls (G : ByteArray → Int) (hG : ∀ b : ByteArray, b.size ≤ 8 → ∃ k, num_Get.f k b = some (G b)) (op : Int) (A : Option Addr) (c : Nat) (l : List ByteArray) (s : List Pg) (at1 : Int) (w : World) (hr : Kd.C Kd.string w A l.length l) (hc : l.length ≤ c) (hs : s.length = 16) (h0 : 0 ≤ at1) :
    Calls Tryd.prog 17 #[.int .u8 op, .agg (spv s), .slice A l.length c, .int .u32 at1] w fun e w' => e = .returned (.tuple #[.int .u32 (cloadT G op l s at1).1, .bool (cloadT G op l s at1).2]) ∧ Below w.heap.size w w' := by
  have HB := Aside0.mk (Below.refl w.heap.size w)
  have HR := Aside0.mk hr
  have L4 := Aside0.mk (fun (w : World) (hr : Kd.C Kd.string w A l.length l) => load_calls G hG A c l s at1 4 w hr hc hs h0 (Or.inr rfl))
  have L1 := Aside0.mk (fun (w : World) (hr : Kd.C Kd.string w A l.length l) => load_calls G hG A c l s at1 1 w hr hc hs h0 (Or.inl rfl))
  unfold cloadT
  revert L4 L1
  generalize loadT G l s at1 4 = r4
  generalize loadT G l s at1 1 = r1
  obtain ⟨r40, r41⟩ := r4
  obtain ⟨r10, r11⟩ := r1
  intro L4 L1
  dsimp only at L4 L1
  clear hr hG h0
  by_cases c20 : op = 20
  · subst c20
    rw [if_pos rfl]
    go_enter Tryd.func17, Tryd.ntmps17
    go_wp2_with (first | ((with_reducible refine gate_dst (N := 5) rfl ?_); refine box_event ?hg (N := 5) ?hd (cs := spv s) (t := 29) ?hr ?_; (case hd => rfl); (case hg => rfl); (case hr => first | (go_simp; done) | (go_simp; rfl)); intro gb hg w1 hbox hb; have n0_ := Aside0.mk (below_step HB.out hb); have n1_ := Aside0.mk (Kd.C_below HR.out hb); clear HB HR; have HB := n0_; have HR := n1_; clear n0_ n1_; have BK := Aside0.mk hbox; clear hbox hb hg) | ((with_reducible refine gate_dst (N := 16) rfl ?_); refine wpList_load_row rfl 29 (.tmp 5) rfl gb rfl 29 (spv s) (0, 0) _ BK.out Tryd.underlying29 rfl (space_info hs) ?_) | ((with_reducible refine gate_callee (f := 13) rfl ?_); refine goesL_ (some 18) rfl rfl Tryd.func13 (by kernel_rfl) rfl #[.slice A l.length c, .agg (spv s), .int .u32 at1, .int .i64 4] rfl (by (try simp only [List.map_toArray, List.map_cons, List.map_nil]); first | done | rfl) ?_; refine (L4.out _ HR.out).mono ?_; rintro e w2 ⟨rfl, hb⟩; refine ⟨_, rfl, ?_⟩; have n0_ := Aside0.mk (below_step HB.out hb); clear HB; have HB := n0_; clear n0_ hb BK HR))
    refine bodyPost_ret (results_list (rs := [.tmp 8, .tmp 9]) rfl (by simp) (.tmp (.tmp .nil))) rfl ?_
    exact ⟨by first | exact rfl | (with_unfolding_all exact rfl), by repeat (first | (with_reducible first | exact HB.out | apply below_alloc | apply pw_below_drewN | apply below_drew1) | exact HB.out)⟩
  have e20 : (op == 20) = false := beq_eq_false_iff_ne.2 c20
  rw [if_neg c20]
  by_cases c21 : op = 21
  · subst c21
    rw [if_pos rfl]
    go_enter Tryd.func17, Tryd.ntmps17
    go_wp2_with (first | ((with_reducible refine gate_dst (N := 5) rfl ?_); refine box_event ?hg (N := 5) ?hd (cs := spv s) (t := 29) ?hr ?_; (case hd => rfl); (case hg => rfl); (case hr => first | (go_simp; done) | (go_simp; rfl)); intro gb hg w1 hbox hb; have n0_ := Aside0.mk (below_step HB.out hb); have n1_ := Aside0.mk (Kd.C_below HR.out hb); clear HB HR; have HB := n0_; have HR := n1_; clear n0_ n1_; have BK := Aside0.mk hbox; clear hbox hb hg) | ((with_reducible refine gate_dst (N := 25) rfl ?_); refine wpList_load_row rfl 29 (.tmp 5) rfl gb rfl 29 (spv s) (0, 0) _ BK.out Tryd.underlying29 rfl (space_info hs) ?_) | ((with_reducible refine gate_callee (f := 13) rfl ?_); refine goesL_ (some 27) rfl rfl Tryd.func13 (by kernel_rfl) rfl #[.slice A l.length c, .agg (spv s), .int .u32 at1, .int .i64 1] rfl (by (try simp only [List.map_toArray, List.map_cons, List.map_nil]); first | done | rfl) ?_; refine (L1.out _ HR.out).mono ?_; rintro e w2 ⟨rfl, hb⟩; refine ⟨_, rfl, ?_⟩; have n0_ := Aside0.mk (below_step HB.out hb); clear HB; have HB := n0_; clear n0_ hb BK HR))
    refine bodyPost_ret (results_list (rs := [.tmp 8, .tmp 9]) rfl (by simp) (.tmp (.tmp .nil))) rfl ?_
    exact ⟨by first | exact rfl | (simp [IntKind.wrap_u32]; done) | (with_unfolding_all exact rfl), by repeat (first | (with_reducible first | exact HB.out | apply below_alloc | apply pw_below_drewN | apply below_drew1) | exact HB.out)⟩
  have e21 : (op == 21) = false := beq_eq_false_iff_ne.2 c21
  rw [if_neg c21]
  go_enter Tryd.func17, Tryd.ntmps17
  go_wp2_with (first | ((with_reducible refine gate_dst (N := 5) rfl ?_); refine box_event ?hg (N := 5) ?hd (cs := spv s) (t := 29) ?hr ?_; (case hd => rfl); (case hg => rfl); (case hr => first | (go_simp; done) | (go_simp; rfl)); intro gb hg w1 hbox hb; have n0_ := Aside0.mk (below_step HB.out hb); have n1_ := Aside0.mk (Kd.C_below HR.out hb); clear HB HR; have HB := n0_; have HR := n1_; clear n0_ n1_; have BK := Aside0.mk hbox; clear hbox hb hg) | ((with_reducible refine gate_dst (N := 36) rfl ?_); refine wpList_load_row rfl 29 (.tmp 5) rfl gb rfl 29 (spv s) (0, 0) _ BK.out Tryd.underlying29 rfl (space_info hs) ?_) | ((with_reducible refine gate_callee (f := 13) rfl ?_); refine goesL_ (some 38) rfl rfl Tryd.func13 (by kernel_rfl) rfl #[.slice A l.length c, .agg (spv s), .int .u32 at1, .int .i64 1] rfl (by (try simp only [List.map_toArray, List.map_cons, List.map_nil]); first | done | rfl) ?_; refine (L1.out _ HR.out).mono ?_; rintro e w2 ⟨rfl, hb⟩; refine ⟨_, rfl, ?_⟩; have n0_ := Aside0.mk (below_step HB.out hb); clear HB; have HB := n0_; clear n0_ hb BK HR))
  refine bodyPost_ret (results_list (rs := [.tmp 8, .tmp 9]) rfl (by simp) (.tmp (.tmp .nil))) rfl ?_
  exact ⟨by first | exact rfl | (with_unfolding_all exact rfl), by repeat (first | (with_reducible first | exact HB.out | apply below_alloc | apply pw_below_drewN | apply below_drew1) | exact HB.out)⟩
end Go.Proofs.YtiklcpacbclpnaaDoor.P
end
section
set_option linter.unusedVariables false
set_option linter.unusedSimpArgs false
namespace Go.Proofs.YtiklcpacbclpnaaDoor.P
open Go.RowKit Go.Proofs.YtiklcpacbclpnaaDoorW.PrintWords Go.Proofs.YtiklcpacbclpnaaDoorW.PrintLast Go.Proofs.YtiklcpacbclpnaaDoorW.PrintMore
attribute [local go_sem] isSome_setCell_eq
set_option maxHeartbeats 8000000 in
set_option maxRecDepth 100000 in
theorem store_none (A : Option Addr) (c : Nat) (l : List ByteArray) (s : List Pg) (at1 sz v : Int) (w : World) (hs : s.length = 16) (h0 : 0 ≤ at1) (hz : sz = 1 ∨ sz = 4) (hf : (findT s at1 sz true).2.2 = false) :
    Calls Tryd.prog 18 #[.slice A l.length c, .agg (spv s), .int .u32 at1, .int .i64 sz, .int .u32 v] w fun e w' => e = .returned (.tuple #[.slice none 0 0, .bool false]) ∧ Below w.heap.size w w' := by
  have HB := Aside0.mk (Below.refl w.heap.size w)
  have hu29 := Tryd.underlying29
  have F := fun w => find_calls s at1 sz true w hs h0 hz
  rw [hf] at F
  generalize (findT s at1 sz true).1 = f1 at F
  generalize (findT s at1 sz true).2.1 = f2 at F
  have FA := Aside0.mk F
  clear F hf
  go_enter Tryd.func18, Tryd.ntmps18
  go_wp2_with (first | ((with_reducible refine gate_dst (N := 6) rfl ?_); refine box_event ?hg (N := 6) ?hd (cs := spv s) (t := 29) ?hr ?_; (case hd => rfl); (case hg => rfl); (case hr => first | (go_simp; done) | (go_simp; rfl)); intro gb hg w1 hbox hb; have n0_ := Aside0.mk (below_step HB.out hb); clear HB; have HB := n0_; clear n0_; have BK := Aside0.mk hbox; clear hbox hb hg) | ((with_reducible refine gate_dst (N := 17) rfl ?_); refine wpList_load_row rfl 29 (.tmp 6) rfl gb rfl 29 (spv s) (0, 0) _ BK.out Tryd.underlying29 rfl (space_info hs) ?_) | ((with_reducible refine gate_callee (f := 28) rfl ?_); refine goesL_ (some 20) rfl rfl Tryd.func28 (by kernel_rfl) rfl #[.agg (spv s), .int .u32 at1, .int .i64 sz, .bool true] rfl (by (try simp only [List.map_toArray, List.map_cons, List.map_nil]); first | done | rfl) ?_; refine (FA.out _).mono ?_; rintro e w2 ⟨rfl, hb⟩; refine ⟨_, rfl, ?_⟩; have n0_ := Aside0.mk (below_step HB.out hb); clear HB; have HB := n0_; clear n0_; clear hb BK))
  refine bodyPost_ret (results_list (rs := [.tmp 10, .tmp 11]) rfl (by simp) (.tmp (.tmp .nil))) rfl ?_
  exact ⟨by first | exact rfl | (with_unfolding_all exact rfl), HB.out⟩
set_option maxHeartbeats 8000000 in
set_option maxRecDepth 100000 in
theorem store_gone (A : Option Addr) (c : Nat) (l : List ByteArray) (s : List Pg) (at1 sz v : Int) (w : World) (hr : Kd.C Kd.string w A l.length l) (hc : l.length ≤ c) (hs : s.length = 16) (h0 : 0 ≤ at1) (hz : sz = 1 ∨ sz = 4) (hf : (findT s at1 sz true).2.2 = true) (ht : mmu_there.f l (findT s at1 sz true).1 = some false) :
    Calls Tryd.prog 18 #[.slice A l.length c, .agg (spv s), .int .u32 at1, .int .i64 sz, .int .u32 v] w fun e w' => e = .returned (.tuple #[.slice none 0 0, .bool false]) ∧ Below w.heap.size w w' := by
  have HB := Aside0.mk (Below.refl w.heap.size w)
  have HR := Aside0.mk hr
  have HC := Aside0.mk hc
  have F := fun w => find_calls s at1 sz true w hs h0 hz
  rw [hf] at F
  revert ht F
  generalize (findT s at1 sz true).1 = f1
  generalize (findT s at1 sz true).2.1 = f2
  intro ht F
  have FA := Aside0.mk F
  have TA := Aside0.mk ht
  clear F hf ht hr hc
  go_enter Tryd.func18, Tryd.ntmps18
  go_wp2_with (first | ((with_reducible refine gate_dst (N := 6) rfl ?_); refine box_event ?hg (N := 6) ?hd (cs := spv s) (t := 29) ?hr ?_; (case hd => rfl); (case hg => rfl); (case hr => first | (go_simp; done) | (go_simp; rfl)); intro gb hg w1 hbox hb; have n0_ := Aside0.mk (below_step HB.out hb); have n1_ := Aside0.mk (Kd.C_below HR.out hb); clear HB HR; have HB := n0_; have HR := n1_; clear n0_ n1_; have BK := Aside0.mk hbox; clear hbox hb hg) | ((with_reducible refine gate_dst (N := 17) rfl ?_); refine wpList_load_row rfl 29 (.tmp 6) rfl gb rfl 29 (spv s) (0, 0) _ BK.out Tryd.underlying29 rfl (space_info hs) ?_) | ((with_reducible refine gate_callee (f := 28) rfl ?_); refine goesL_ (some 20) rfl rfl Tryd.func28 (by kernel_rfl) rfl #[.agg (spv s), .int .u32 at1, .int .i64 sz, .bool true] rfl (by (try simp only [List.map_toArray, List.map_cons, List.map_nil]); first | done | rfl) ?_; refine (FA.out _).mono ?_; rintro e w2 ⟨rfl, hb⟩; refine ⟨_, rfl, ?_⟩; have n0_ := Aside0.mk (below_step HB.out hb); have n1_ := Aside0.mk (Kd.C_below HR.out hb); clear HB HR; have HB := n0_; have HR := n1_; clear n0_ n1_; clear hb BK) | (go_at_call 29; (with_reducible refine (mmu_there.calls A c l f1 false _ HR.out HC.out TA.out).mono ?_); rintro e w' ⟨rfl, ⟨nd, rfl⟩⟩) | ((with_reducible refine gate_callee (f := 29) rfl ?_); refine goesL_ (some 26) rfl rfl Tryd.func29 (by kernel_rfl) rfl #[.slice A l.length c, .int .i64 f1] rfl (by (try simp only [List.map_toArray, List.map_cons, List.map_nil]); first | done | rfl) ?_; (with_reducible refine (mmu_there.calls A c l f1 false _ HR.out HC.out TA.out).mono ?_); rintro e w' ⟨rfl, ⟨nd, rfl⟩⟩; refine ⟨_, rfl, ?_⟩))
  refine bodyPost_ret (results_list (rs := [.tmp 10, .tmp 11]) rfl (by simp) (.tmp (.tmp .nil))) rfl ?_
  exact ⟨by first | exact rfl | (with_unfolding_all exact rfl), by repeat (first | (with_reducible first | exact HB.out | apply below_alloc | apply pw_below_drewN | apply below_drew1) | exact HB.out)⟩
end Go.Proofs.YtiklcpacbclpnaaDoor.P
end
section
set_option linter.unusedVariables false
set_option linter.unusedSimpArgs false
namespace Go.Proofs.YtiklcpacbclpnaaDoor.P
open Go.RowKit Go.Proofs.YtiklcpacbclpnaaDoorW.PrintWords Go.Proofs.YtiklcpacbclpnaaDoorW.PrintLast Go.Proofs.YtiklcpacbclpnaaDoorW.PrintMore
theorem clone_calls (A : Option Addr) (c : Nat) (l : List ByteArray) (w : World) (hr : Kd.C Kd.string w A l.length l) (h1 : 1 ≤ l.length) (h2 : l.length ≤ 100000) :
    Calls Tryd.prog 24 #[.slice A l.length c] w fun e w' => ∃ v, e = .returned v ∧ Kd.R Kd.string 9 w' w.heap.size (fun _ => True) v l ∧ Below w.heap.size w w' := by
  obtain ⟨_, _, h4⟩ := hr
  obtain ⟨ad, rfl, h5⟩ := h4 (by omega)
  have key : ∀ (j : Nat) x, l[j]? = some x → w.cell? (ad.add j) = some (.string x) := by
    intro j x hj
    obtain ⟨cs, hl, hk, hcell⟩ := h5 j x hj
    obtain rfl : cs = [.string x] := hk
    have := hcell 0 _ rfl
    have hs : Kd.string.sz = 1 := rfl
    rw [hs, Nat.mul_one, Nat.add_zero] at this
    exact this
  have h0 := key 0 _ (List.getElem?_eq_getElem (by omega))
  obtain ⟨b, o, sp⟩ := ad
  obtain rfl : sp = none := by
    cases sp with
    | none => rfl
    | some q =>
      exfalso
      unfold World.cell? at h0
      split at h0
      · simp [Addr.add] at h0
      · cases h0
  refine (Tryd.slices_Clone_string b o l.length c l w (Nat.le_refl _) (by omega) (fun j hj => ?_)).mono fun e w' ⟨v, he, ho, _, hb⟩ => ⟨v, he, ?_, hb⟩
  · have := key j _ (List.getElem?_eq_getElem hj)
    have e2 : l.getD j ByteArray.empty = l[j] := by rw [List.getD_eq_getElem?_getD, List.getElem?_eq_getElem hj]; rfl
    rw [e2]
    unfold Addr.add at this
    split at this <;> first | exact this | (rename_i h; subst h; exact this)
  · rw [List.take_length] at ho
    exact Kd.R_of_own ho (fun _ _ => trivial)
end Go.Proofs.YtiklcpacbclpnaaDoor.P
end
section
set_option linter.unusedVariables false
namespace Go.Proofs.YtiklcpacbclpnaaDoorW.PrintLast
open Go.RowKit Go.Proofs.YtiklcpacbclpnaaDoorW.PrintWords
def OpDoes (P : Program) (ops : Array Oper) (o : Oper) (af : Act) (Q : Exit → Act → World → Prop) (w : World) (T : World → Prop) : Prop :=
  match (execOp af.eval o).run P w with
  | .ok (.value v) w' => (∀ d, o.dst = some d → af.eval (.tmp d) = v) ∧ T w'
  | .ok .skip w' => (∀ d, o.dst = some d → af.eval (.tmp d) = undef) ∧ T w'
  | .ok (.enter f args) w' => Calls P f args w' fun e w'' => match e with
    | .returned v => (∀ d, o.dst = some d → af.eval (.tmp d) = v) ∧ T w''
    | .panicked c => ∀ a, Q (.panic c) a w''
    | .outgrown => LetsOut Q
  | .halt (.panic v) w' => ∀ a, Q (.panic [{ v, recovered := false }]) a w'
  | _ => False
def OpMay (P : Program) (ops : Array Oper) (o : Oper) (af : Act) (Q : Exit → Act → World → Prop) (w : World) (T : World → Prop) : Prop :=
  if Region.wanted o (yielded ops af.tmps) = true then OpDoes P ops o af Q w T else (∀ d, o.dst = some d → af.eval (.tmp d) = undef) ∧ T w
def dstsOf (ops : Array Oper) : List Tmp := ops.toList.filterMap (·.dst)
def detB (ops : Array Oper) : Bool :=
  Region.noSelect ops && (List.range ops.size).all fun i => match ops[i]? with
    | none => true
    | some o => (needsOf .any o).all (fun j => decide (j < i)) &&
      (List.range ops.size).all fun j => match ops[j]? with
        | none => true
        | some p => match p.dst with
          | none => true
          | some d => (j == i || !(o.dst == some d)) && (!(o.looksAt ops).contains d || (needsOf .any o).contains j)
def Mid (ops : Array Oper) (a0 af : Act) (b : Nat → Bool) (a : Act) : Prop :=
  a.defers = af.defers ∧ a.tmps.size = af.tmps.size ∧
    ∀ t, ((∃ (j : Nat) (o : Oper), ops[j]? = some o ∧ o.dst = some t ∧ b j = true) → a.tmps[t]? = af.tmps[t]?) ∧ ((¬ ∃ (j : Nat) (o : Oper), ops[j]? = some o ∧ o.dst = some t ∧ b j = true) → a.tmps[t]? = a0.tmps[t]?)
section
variable {P : Program} {ops : Array Oper} {Q : Exit → Act → World → Prop} {a0 af : Act}
theorem det_parts (h : detB ops = true) : (∀ (j : Nat) (o : Oper) cs b, ops[j]? = some o → o.op ≠ .select cs b) ∧
    (∀ (i : Nat) (o : Oper), ops[i]? = some o → ∀ j ∈ needsOf .any o, j < i) ∧ (∀ (i : Nat) (o : Oper) (j : Nat) (p : Oper) (d : Tmp), ops[i]? = some o → ops[j]? = some p → p.dst = some d → o.dst = some d → j = i) ∧
    (∀ (i : Nat) (o : Oper) (j : Nat) (p : Oper) (d : Tmp), ops[i]? = some o → ops[j]? = some p → p.dst = some d → d ∈ o.looksAt ops → j ∈ needsOf .any o) := by
  unfold detB at h
  rw [Bool.and_eq_true, List.all_eq_true] at h
  obtain ⟨h1, h2⟩ := h
  have key : ∀ (i : Nat) (o : Oper), ops[i]? = some o → (∀ j ∈ needsOf .any o, j < i) ∧ ∀ (j : Nat) (p : Oper) (d : Tmp), ops[j]? = some p → p.dst = some d → (j = i ∨ o.dst ≠ some d) ∧ (d ∈ o.looksAt ops → j ∈ needsOf .any o) := by
    intro i o ho
    have hi := (Array.getElem?_eq_some_iff.1 ho).1
    have h3 := h2 i (List.mem_range.2 hi)
    rw [ho] at h3
    simp only [Bool.and_eq_true, List.all_eq_true, decide_eq_true_eq] at h3
    refine ⟨h3.1, fun j p d hp hd => ?_⟩
    have hj := (Array.getElem?_eq_some_iff.1 hp).1
    have h4 := h3.2 j (List.mem_range.2 hj)
    rw [hp] at h4
    simp only [hd, Bool.and_eq_true, Bool.or_eq_true, beq_iff_eq, Bool.not_eq_true', beq_eq_false_iff_ne, List.contains_eq_mem, decide_eq_true_eq, decide_eq_false_iff_not] at h4
    exact ⟨h4.1, fun hm => h4.2.resolve_left (fun hn => hn hm)⟩
  exact ⟨Region.noSelect_spec h1, fun i o ho => (key i o ho).1, fun i o j p d ho hp hd hod => (((key i o ho).2 j p d hp hd).1).resolve_right (fun hn => hn hod), fun i o j p d ho hp hd hm => ((key i o ho).2 j p d hp hd).2 hm⟩
theorem wanted_congr {o : Oper} {a a' : Act} (h : ∀ t ∈ o.looksAt ops, a.tmps[t]? = a'.tmps[t]?) : Region.wanted o (yielded ops a.tmps) = Region.wanted o (yielded ops a'.tmps) := by
  unfold Region.wanted
  cases hg : o.guard with
  | none => rfl
  | some gw =>
    obtain ⟨g, want⟩ := gw
    have hy : yielded ops a.tmps g = yielded ops a'.tmps g := by
      unfold yielded
      cases ht : (ops[g]?).bind (·.dst) with
      | none => rfl
      | some t =>
        have := h t (by simp [Oper.looksAt, hg, ht])
        simp only [Option.bind_some, this]
    simp only [hy]
theorem exec_congr {o : Oper} (hs : ∀ cs b, o.op ≠ .select cs b) {a a' : Act} (h : ∀ t ∈ o.looksAt ops, a.tmps[t]? = a'.tmps[t]?) : execOp a.eval o = execOp a'.eval o :=
  execOp_congr o hs fun x hx => by
    cases x with
    | tmp t =>
      have := h t (List.mem_append_left _ (List.mem_filterMap.2 ⟨.tmp t, by simpa using hx, rfl⟩))
      simp [Act.eval, Array.getD_eq_getD_getElem?, this]
    | _ => rfl
theorem mid_put {b : Nat → Bool} {a : Act} (hm : Mid ops a0 af b a) (hd : detB ops = true) {i : Nat} {o : Oper} (ho : ops[i]? = some o) {v : Value} (hv : ∀ d, o.dst = some d → af.eval (.tmp d) = v) :
    Mid ops a0 af (fun j => j == i || b j) (a.put o.dst v) := by
  obtain ⟨_, _, h3, _⟩ := det_parts hd
  obtain ⟨m1, m2, m3⟩ := hm
  cases hdst : o.dst with
  | none =>
    refine ⟨m1, m2, fun t => ⟨fun hx => ?_, fun hx => ?_⟩⟩
    · refine (m3 t).1 ?_
      obtain ⟨j, p, hp, hpd, hb⟩ := hx
      refine ⟨j, p, hp, hpd, ?_⟩
      rcases Nat.decEq j i with h | h
      · simpa [h] using hb
      · subst h; rw [ho] at hp; injection hp with hp; subst hp; rw [hdst] at hpd; cases hpd
    · refine (m3 t).2 (fun hy => hx ?_)
      obtain ⟨j, p, hp, hpd, hb⟩ := hy
      exact ⟨j, p, hp, hpd, by simp [hb]⟩
  | some d =>
    have hvd := hv d hdst
    refine ⟨m1, by simpa [Act.put] using m2, fun t => ?_⟩
    by_cases htd : d = t
    · subst htd
      refine ⟨fun _ => ?_, fun hx => absurd ⟨i, o, ho, hdst, by simp⟩ hx⟩
      simp only [Act.put]
      rw [Array.getElem?_setIfInBounds_self]
      rcases Nat.lt_or_ge d a.tmps.size with hl | hl
      · rw [if_pos hl]
        have hl' : d < af.tmps.size := by rw [← m2]; exact hl
        simp only [Act.eval, Array.getD_eq_getD_getElem?, Array.getElem?_eq_getElem hl', Option.getD_some] at hvd
        rw [Array.getElem?_eq_getElem hl', hvd]
      · rw [if_neg (by omega), Array.getElem?_eq_none (by rw [← m2]; exact hl)]
    · have e : (a.put (some d) v).tmps[t]? = a.tmps[t]? := by simp [Act.put, Array.getElem?_setIfInBounds_ne htd]
      refine ⟨fun hx => ?_, fun hx => ?_⟩
      · rw [e]
        refine (m3 t).1 ?_
        obtain ⟨j, p, hp, hpd, hb⟩ := hx
        refine ⟨j, p, hp, hpd, ?_⟩
        rcases Nat.decEq j i with h | h
        · simpa [h] using hb
        · subst h; rw [ho] at hp; injection hp with hp; subst hp; rw [hdst] at hpd; injection hpd with hpd; exact absurd hpd htd
      · rw [e]
        refine (m3 t).2 (fun hy => hx ?_)
        obtain ⟨j, p, hp, hpd, hb⟩ := hy
        exact ⟨j, p, hp, hpd, by simp [hb]⟩
theorem getD_set_eq {l : Array Bool} {i j : Nat} (hi : i < l.size) : (l.setIfInBounds i true).getD j false = (j == i || l.getD j false) := by
  by_cases h : i = j
  · subst h
    simp [Array.getD_eq_getD_getElem?, hi]
  · have : (j == i) = false := by simpa using fun e => h e.symm
    rw [this, Bool.false_or]
    simp [Array.getD_eq_getD_getElem?, Array.getElem?_setIfInBounds_ne h]
theorem region_det_go (hd : detB ops = true) (R : (Nat → Bool) → World → Prop)
    (hfin : ∀ t, (∀ (j : Nat) (o : Oper), ops[j]? = some o → o.dst ≠ some t) → af.tmps[t]? = a0.tmps[t]?)
    (hop : ∀ (i : Nat) (o : Oper), ops[i]? = some o → ∀ (b : Nat → Bool) (w : World), b i = false → (∀ j ∈ needsOf .any o, b j = true) → R b w → OpMay P ops o af Q w (R (fun j => j == i || b j)))
    (hend : ∀ (b : Nat → Bool) (w : World), (∀ i, i < ops.size → b i = true) → R b w → Q .normal af w) :
    ∀ (fuel : Nat) (l : Array Bool) (b : Nat → Bool) (a : Act) (w : World), l.size = ops.size → (∀ j, l.getD j false = b j) → (∀ i, i < ops.size → b i = false → 0 < fuel) → (List.range ops.size).countP (fun i => !b i) ≤ fuel → Mid ops a0 af b a → R b w → wpAny P .any ops Q fuel l a w := by
  obtain ⟨hsel, hlt, hone, hlook⟩ := det_parts hd
  have hnil : ∀ (l : Array Bool) (b : Nat → Bool), l.size = ops.size → (∀ j, l.getD j false = b j) → Region.ready .any ops l = [] → ∀ i, i < ops.size → b i = true := by
    intro l b hl hb hr i
    induction i using Nat.strongRecOn with
    | _ i ih =>
      intro hi
      cases hbi : b i with
      | true => rfl
      | false =>
        exfalso
        have hm : i ∈ Region.ready .any ops l := by
          rw [mem_ready]
          refine ⟨?_, ops[i], Array.getElem?_eq_getElem hi, fun e he hbe => ?_⟩
          · have := hb i
            rw [hbi] at this
            simpa [Array.getD_eq_getD_getElem?, hl, hi] using this
          · have hn : e.on ∈ needsOf .any ops[i] := List.mem_map.2 ⟨e, List.mem_filter.2 ⟨by simpa using he, hbe⟩, rfl⟩
            have := hlt i ops[i] (Array.getElem?_eq_getElem hi) e.on hn
            rw [hb]
            exact ih e.on this (by omega)
        rw [hr] at hm
        cases hm
  have hdone : ∀ (l : Array Bool) (b : Nat → Bool) (a : Act) (w : World), l.size = ops.size → (∀ j, l.getD j false = b j) → Region.ready .any ops l = [] → Mid ops a0 af b a → R b w → Q .normal a w := by
    intro l b a w hl hb hr hm hR
    have hall := hnil l b hl hb hr
    have ha : a = af := by
      obtain ⟨m1, m2, m3⟩ := hm
      obtain ⟨at_, ad_⟩ := a
      obtain ⟨ft_, fd_⟩ := af
      dsimp only at m1 m2 m3 ⊢
      subst m1
      congr
      refine Array.ext_getElem? (fun t => ?_)
      by_cases ht : ∃ (j : Nat) (o : Oper), ops[j]? = some o ∧ o.dst = some t ∧ b j = true
      · exact (m3 t).1 ht
      · rw [(m3 t).2 ht]
        refine (hfin t (fun j o ho hod => ht ⟨j, o, ho, hod, ?_⟩)).symm
        exact hall j (Array.getElem?_eq_some_iff.1 ho).1
    subst ha
    exact hend b w hall hR
  intro fuel
  induction fuel with
  | zero =>
    intro l b a w hl hb hf _ hm hR
    have hr : Region.ready .any ops l = [] := by
      cases h : Region.ready .any ops l with
      | nil => rfl
      | cons i r =>
        exfalso
        have hi : i ∈ Region.ready .any ops l := by rw [h]; exact List.mem_cons_self
        obtain ⟨h1, o, ho, _⟩ := mem_ready.1 hi
        have hs := (Array.getElem?_eq_some_iff.1 ho).1
        have hbi : b i = false := by
          rw [← hb i]
          simpa [Array.getD_eq_getD_getElem?, hl, hs] using h1
        exact absurd (hf i hs hbi) (by omega)
    exact ⟨hr, hdone l b a w hl hb hr hm hR⟩
  | succ fuel ih =>
    intro l b a w hl hb hf hcnt hm hR
    refine ⟨fun hr => hdone l b a w hl hb hr hm hR, fun i hi => ?_⟩
    obtain ⟨h1, o, ho, h2⟩ := mem_ready.1 hi
    have hs := (Array.getElem?_eq_some_iff.1 ho).1
    have hbi : b i = false := by
      rw [← hb i]
      simpa [Array.getD_eq_getD_getElem?, hl, hs] using h1
    have hneed : ∀ j ∈ needsOf .any o, b j = true := by
      intro j hj
      obtain ⟨e, he, rfl⟩ := List.mem_map.1 hj
      obtain ⟨he1, he2⟩ := List.mem_filter.1 he
      rw [← hb]
      exact h2 e (by simpa using he1) he2
    have hsame : ∀ t ∈ o.looksAt ops, a.tmps[t]? = af.tmps[t]? := by
      intro t ht
      by_cases hx : ∃ (j : Nat) (p : Oper), ops[j]? = some p ∧ p.dst = some t
      · obtain ⟨j, p, hp, hpd⟩ := hx
        exact (hm.2.2 t).1 ⟨j, p, hp, hpd, hneed j (hlook i o j p t ho hp hpd ht)⟩
      · rw [(hm.2.2 t).2 (fun ⟨j, p, hp, hpd, _⟩ => hx ⟨j, p, hp, hpd⟩)]
        exact (hfin t (fun j p hp hpd => hx ⟨j, p, hp, hpd⟩)).symm
    have hcnt' : (List.range ops.size).countP (fun j => !(j == i || b j)) ≤ fuel := by
      have e : (List.range ops.size).countP (fun j => !b j) = (List.range ops.size).countP (fun j => !(j == i || b j)) + 1 := by
        have h3 : ∀ (xs : List Nat), xs.Nodup → i ∈ xs → xs.countP (fun j => !b j) = xs.countP (fun j => !(j == i || b j)) + 1 := by
          intro xs
          induction xs with
          | nil => intro _ h; cases h
          | cons x xs ihx =>
            intro hnd hmem
            rw [List.nodup_cons] at hnd
            by_cases hxi : x = i
            · subst hxi
              have h5 : ∀ (ys : List Nat), x ∉ ys → ys.countP (fun j => !b j) = ys.countP (fun j => !(j == x || b j)) := by
                intro ys hy
                apply List.countP_congr
                intro j hj
                have : (j == x) = false := by simp; rintro rfl; exact hy hj
                simp [this]
              rw [List.countP_cons_of_pos (by simp [hbi]), List.countP_cons_of_neg (by simp), h5 xs hnd.1]
            · have hm' : i ∈ xs := by
                rcases List.mem_cons.1 hmem with h | h
                · exact absurd h.symm hxi
                · exact h
              have e1 : (x == i) = false := by simpa using hxi
              rw [List.countP_cons, List.countP_cons, ihx hnd.2 hm']
              simp only [e1, Bool.false_or]
              omega
        exact h3 _ List.nodup_range (List.mem_range.2 hs)
      omega
    have hnext : ∀ (v : Value) (w' : World), (∀ d, o.dst = some d → af.eval (.tmp d) = v) → R (fun j => j == i || b j) w' → wpAny P .any ops Q fuel (l.setIfInBounds i true) (a.put o.dst v) w' := by
      intro v w' hv hR'
      refine ih (l.setIfInBounds i true) (fun j => j == i || b j) (a.put o.dst v) w' (by simpa using hl) (fun j => ?_) (fun j hj hbj => ?_) hcnt' (mid_put hm hd ho hv) hR'
      · rw [getD_set_eq (by omega), hb j]
      · have : 0 < (List.range ops.size).countP (fun j => !(j == i || b j)) := List.countP_pos_iff.2 ⟨j, List.mem_range.2 hj, by simpa using hbj⟩
        omega
    have h4 := hop i o ho b w hbi hneed hR
    unfold OpMay at h4
    unfold wpOp
    rw [ho]
    simp only
    rw [wanted_congr hsame]
    split
    · rename_i hw
      rw [if_pos hw] at h4
      refine .inl ?_
      unfold OpDoes at h4
      unfold Oper.wp
      rw [exec_congr (fun cs b => hsel i o cs b ho) hsame]
      generalize (execOp af.eval o).run P w = r at h4 ⊢
      cases r with
      | ok n w' =>
        cases n with
        | value v => exact hnext v w' h4.1 h4.2
        | skip => exact hnext undef w' h4.1 h4.2
        | enter f args =>
          refine Calls.mono h4 (fun e w'' he => ?_)
          cases e with
          | returned v => exact hnext v w'' he.1 he.2
          | panicked c => exact he a
          | outgrown => exact he
        | _ => exact h4.elim
      | halt x w' =>
        cases x with
        | panic v => exact h4 a
        | _ => exact h4.elim
    · rename_i hw
      rw [if_neg hw] at h4
      exact hnext undef w h4.1 h4.2
def AllFrom (p : Nat → Oper → Prop) : Nat → List Oper → Prop
  | _, [] => True
  | k, o :: r => p k o ∧ AllFrom p (k + 1) r
theorem allFrom_at {p : Nat → Oper → Prop} : ∀ {l : List Oper} {k : Nat}, AllFrom p k l → ∀ i o, l[i]? = some o → p (k + i) o
  | [], _, _, i, o, h => by simp at h
  | x :: r, k, h, 0, o, he => by
    injection he with he
    subst he
    exact h.1
  | x :: r, k, h, i + 1, o, he => by
    have := allFrom_at h.2 i o he
    rw [show k + (i + 1) = k + 1 + i by omega]
    exact this
theorem putAll_defers : ∀ (vs : List (Tmp × Value)) (a : Act), (putAll a vs).defers = a.defers
  | [], _ => rfl
  | (n, v) :: r, a => by rw [putAll, putAll_defers r]; rfl
theorem putAll_size : ∀ (vs : List (Tmp × Value)) (a : Act), (putAll a vs).tmps.size = a.tmps.size
  | [], _ => rfl
  | (n, v) :: r, a => by rw [putAll, putAll_size r]; simp [Act.put]
theorem putAll_other : ∀ (vs : List (Tmp × Value)) (a : Act) (t : Tmp), (∀ x ∈ vs, x.1 ≠ t) → (putAll a vs).tmps[t]? = a.tmps[t]?
  | [], _, _, _ => rfl
  | (n, v) :: r, a, t, h => by
    rw [putAll, putAll_other r _ t (fun x hx => h x (List.mem_cons_of_mem _ hx))]
    exact Array.getElem?_setIfInBounds_ne (h (n, v) List.mem_cons_self)
def look : List (Tmp × Value) → Tmp → Option Value
  | [], _ => none
  | (n, v) :: r, t => match look r t with
    | some u => some u
    | none => bif n == t then some v else none
def lookE (vs : List (Tmp × Value)) (a : Act) : Operand → Value
  | .tmp t => match look vs t with
    | some u => u
    | none => a.eval (.tmp t)
  | x => a.eval x
theorem putAll_look : ∀ (vs : List (Tmp × Value)) (a : Act), (vs.all fun x => decide (x.1 < a.tmps.size)) = true → ∀ t, (putAll a vs).eval (.tmp t) = match look vs t with
    | some u => u
    | none => a.eval (.tmp t)
  | [], _, _, _ => rfl
  | (n, v) :: r, a, h, t => by
    rw [List.all_cons, Bool.and_eq_true] at h
    have hs : (a.put (some n) v).tmps.size = a.tmps.size := by simp [Act.put]
    have ih := putAll_look r (a.put (some n) v) (by rw [hs]; exact h.2) t
    rw [putAll, ih, look]
    cases hl : look r t with
    | some u => rfl
    | none =>
      have hn : n < a.tmps.size := by simpa using h.1
      by_cases hnt : n = t
      · subst hnt
        simp [Act.eval, Act.put, Array.getD_eq_getD_getElem?, hn]
      · have : (n == t) = false := by simpa using hnt
        simp [Act.eval, Act.put, Array.getD_eq_getD_getElem?, Array.getElem?_setIfInBounds_ne hnt, this]
theorem eval_lookE (vs : List (Tmp × Value)) (a : Act) (h : (vs.all fun x => decide (x.1 < a.tmps.size)) = true) : (putAll a vs).eval = lookE vs a := by
  funext x
  cases x with
  | tmp t => exact putAll_look vs a h t
  | _ => rfl
def puts : List (Tmp × Value) → List Oper
  | [] => []
  | (n, v) :: r => { dst := some n, op := .assign (.const v), type := 0, pos := "", after := #[], guard := none } :: puts r
theorem of_puts : ∀ (vs : List (Tmp × Value)) (a : Act) (w : World), wpList P #[] Q (puts vs) a w → Q .normal (putAll a vs) w
  | [], a, w, h => h
  | (n, v) :: r, a, w, h => by
    unfold puts wpList at h
    rw [if_pos (by simp [Region.wanted])] at h
    rcases h with h | h
    · exact of_puts r (a.put (some n) v) w h
    · exact absurd h.1.1 (by
        have e : ((execOp a.eval { dst := some n, op := .assign (.const v), type := 0, pos := "", after := #[], guard := none }).runT P w #[]).2 = #[] := rfl
        rw [e]
        simp)
theorem region_det {id : Nat} {a : Act} {w : World} (vs : List (Tmp × Value)) (R : (Nat → Bool) → World → Prop) (hm : P.follows .mixedOrders = true) (hd : detB ops = true)
    (hsz : (vs.all fun x => decide (x.1 < a.tmps.size)) = true) (hk : (vs.map (·.1)).all (fun t => (dstsOf ops).contains t) = true) (h0 : R (fun _ => false) w.drew)
    (hop : ∀ af : Act, af.eval = lookE vs a → AllFrom (fun i o => ∀ (b : Nat → Bool) (w : World), b i = false → (∀ j ∈ needsOf .any o, b j = true) → R b w → OpMay P ops o af Q w (R (fun j => j == i || b j))) 0 ops.toList)
    (hend : ∀ (b : Nat → Bool) (w : World), (∀ i, i < ops.size → b i = true) → R b w → wpList P #[] Q (puts vs) a w) : (Code.region id ops true).wp P Q a w := by
  refine wp_region_any hm ?_
  have hcnt : (List.range ops.size).countP (fun _ => !false) ≤ ops.size := by
    simp
  refine region_det_go (a0 := a) (af := putAll a vs) hd R (fun t ht => ?_) (fun i o ho => ?_) (fun b w hb hR => of_puts vs a w (hend b w hb hR)) ops.size _ (fun _ => false) a w.drew (by simp) (fun j => ?_) (fun i hi _ => by omega) hcnt ?_ h0
  · refine putAll_other vs a t (fun x hx he => ?_)
    have h1 := List.all_eq_true.1 hk x.1 (List.mem_map.2 ⟨x, hx, rfl⟩)
    rw [List.contains_iff_mem] at h1
    obtain ⟨o, ho, hod⟩ := List.mem_filterMap.1 h1
    obtain ⟨j, hj, hjo⟩ := List.getElem_of_mem ho
    exact ht j o (by rw [← Array.getElem?_toList, List.getElem?_eq_getElem hj, hjo]) (by rw [hod, he])
  · have := allFrom_at (hop _ (eval_lookE vs a hsz)) i o (by rw [Array.getElem?_toList]; exact ho)
    rwa [Nat.zero_add] at this
  · simp [Array.getD_eq_getD_getElem?, Array.getElem?_replicate]
    split <;> rfl
  · refine ⟨(putAll_defers vs a).symm, (putAll_size vs a).symm, fun t => ⟨fun h => ?_, fun _ => rfl⟩⟩
    obtain ⟨_, _, _, _, h⟩ := h
    cases h
theorem may_value {o : Oper} {w : World} {T : World → Prop} {v : Value} (hg : o.guard = none) (hrun : (execOp af.eval o).run P w = .ok (.value v) w) (hv : ∀ d, o.dst = some d → af.eval (.tmp d) = v) (hT : T w) : OpMay P ops o af Q w T := by
  unfold OpMay
  rw [if_pos (by simp [Region.wanted, hg])]
  unfold OpDoes
  rw [hrun]
  exact ⟨hv, hT⟩
theorem may_skip {o : Oper} {w w1 : World} {T : World → Prop} (hg : o.guard = none) (hN : o.dst = none) (hrun : (execOp af.eval o).run P w = .ok .skip w1) (hT : T w1) : OpMay P ops o af Q w T := by
  unfold OpMay
  rw [if_pos (by simp [Region.wanted, hg])]
  unfold OpDoes
  rw [hrun]
  exact ⟨fun d hd => by rw [hN] at hd; (cases hd), hT⟩
theorem may_call {o : Oper} {w : World} {T : World → Prop} {f : FuncId} {args : Array Value} (hg : o.guard = none) (hrun : (execOp af.eval o).run P w = .ok (.enter f args) w)
    (h : Calls P f args w fun e w' => ∃ v, e = .returned v ∧ (∀ d, o.dst = some d → af.eval (.tmp d) = v) ∧ T w') : OpMay P ops o af Q w T := by
  unfold OpMay
  rw [if_pos (by simp [Region.wanted, hg])]
  unfold OpDoes
  rw [hrun]
  refine h.mono (fun e w' he => ?_)
  obtain ⟨v, rfl, h1, h2⟩ := he
  exact ⟨h1, h2⟩
end
end Go.Proofs.YtiklcpacbclpnaaDoorW.PrintLast
end
section
set_option linter.unusedVariables false
namespace Go.Proofs.YtiklcpacbclpnaaDoorW.PrintLast
open Go.RowKit Go.Proofs.YtiklcpacbclpnaaDoorW.PrintWords
abbrev Blk := Option Nat × Array Value × TypeId
structure St (B : Nat) (w0 w : World) (bs : List Blk) : Prop where
  low : B ≤ w.heap.size
  below : Below B w0 w
  own : ∀ x ∈ bs, ∀ g, x.1 = some g → B ≤ g ∧ w.heap[g]? = some (.cells x.2.1 x.2.2 (0, 0))
  apart : bs.Pairwise (fun x y => ∀ g, x.1 = some g → y.1 ≠ some g)
namespace St
variable {P : Program} {B : Nat} {w0 w : World} {bs : List Blk} {g : Nat} {cs : Array Value} {t : TypeId}
theorem start (w : World) : St w.heap.size w w [] := ⟨Nat.le_refl _, Below.refl _ _, fun _ h => (by cases h), List.Pairwise.nil⟩
theorem drew (h : St B w0 w bs) : St B w0 w.drew bs := ⟨h.low, h.below.drew, h.own, h.apart⟩
theorem drewN (h : St B w0 w bs) (n : Nat) : St B w0 (w.drewN n) bs := ⟨h.low, ⟨h.below.os, h.below.tape, h.below.output, h.below.size, h.below.block⟩, h.own, h.apart⟩
theorem lt (h : St B w0 w bs) {x : Blk} (hx : x ∈ bs) {g : Nat} (hg : x.1 = some g) : g < w.heap.size := blk_lt (h.own x hx g hg).2
theorem alloc (h : St B w0 w bs) (cs : Array Value) (t : TypeId) : St B w0 (w.alloc (.cells cs t (0, 0))) ((some w.heap.size, cs, t) :: bs) := by
  refine ⟨by simp; have := h.low; omega, h.below.alloc h.low _, fun x hx g hg => ?_, List.pairwise_cons.2 ⟨fun y hy g hg hyg => ?_, h.apart⟩⟩
  · rcases List.mem_cons.1 hx with rfl | hx
    · injection hg with hg
      subst hg
      exact ⟨h.low, heap_alloc_new w _⟩
    · exact ⟨(h.own x hx g hg).1, (Below.heap_alloc w _ g (h.lt hx hg)).trans (h.own x hx g hg).2⟩
  · injection hg with hg
    have := h.lt hy hyg
    omega
theorem later {w1 : World} (h : St B w0 w bs) (hb : Below w.heap.size w w1) : St B w0 w1 bs :=
  ⟨Nat.le_trans h.low hb.size, h.below.trans (hb.mono h.low), fun x hx g hg => ⟨(h.own x hx g hg).1, (hb.block g (h.lt hx hg)).trans (h.own x hx g hg).2⟩, h.apart⟩
theorem grown {w1 : World} {row : Option Nat} (h : St B w0 w bs) (hg : w.grownBy w1 row) (hr : ∀ k, row = some k → B ≤ k ∧ ∀ x ∈ bs, x.1 ≠ some k) : St B w0 w1 bs :=
  ⟨Nat.le_trans h.low hg.size, h.below.grown hg h.low (fun k hk => (hr k hk).1), fun x hx g hgx => ⟨(h.own x hx g hgx).1, (hg.block g (h.lt hx hgx) (fun e => (hr g e.symm).2 x hx hgx)).trans (h.own x hx g hgx).2⟩, h.apart⟩
theorem add (h : St B w0 w bs) (og : Option Nat) (cs : Array Value) (t : TypeId) (hg : ∀ g, og = some g → B ≤ g ∧ w.heap[g]? = some (.cells cs t (0, 0)) ∧ ∀ x ∈ bs, x.1 ≠ some g) : St B w0 w ((og, cs, t) :: bs) := by
  refine ⟨h.low, h.below, fun x hx g hxg => ?_, List.pairwise_cons.2 ⟨fun y hy g hgo => (hg g hgo).2.2 y hy, h.apart⟩⟩
  rcases List.mem_cons.1 hx with rfl | hx
  · exact ⟨(hg g hxg).1, (hg g hxg).2.1⟩
  · exact h.own x hx g hxg
theorem mem {n : Nat} (hn : bs[n]? = some (some g, cs, t)) : (some g, cs, t) ∈ bs := List.mem_of_getElem? hn
theorem blk (h : St B w0 w bs) {n : Nat} (hn : bs[n]? = some (some g, cs, t)) : w.heap[g]? = some (.cells cs t (0, 0)) := (h.own _ (mem hn) g rfl).2
theorem cell (h : St B w0 w bs) {n : Nat} (hn : bs[n]? = some (some g, cs, t)) (k : Nat) : w.cell? ⟨g, k, none⟩ = cs[k]? := blk_cell (h.blk hn) k
theorem free (h : St B w0 w bs) {n : Nat} (hn : bs[n]? = some (some g, cs, t)) (k : Nat) : w.frozen? ⟨g, k, none⟩ = false := blk_frozen (h.blk hn) k
theorem setRow (h : St B w0 w bs) (n : Nat) (hn : bs[n]? = some (some g, cs, t)) (cs' : Array Value) : St B w0 (w.setRow g cs') (bs.set n (some g, cs', t)) := by
  have hlo : B ≤ g := (h.own _ (mem hn) g rfl).1
  have hnl : n < bs.length := (List.getElem?_eq_some_iff.1 hn).1
  have hng : bs[n] = (some g, cs, t) := (List.getElem?_eq_some_iff.1 hn).2
  have hp := List.pairwise_iff_getElem.1 h.apart
  refine ⟨by simpa using h.low, ⟨h.below.os, h.below.tape, h.below.output, by simpa using h.below.size, fun k hk => ?_⟩, fun x hx gx hgx => ?_, ?_⟩
  · rw [setRow_other w g k cs' (by omega)]
    exact h.below.block k hk
  · obtain ⟨i, hi, rfl⟩ := List.getElem_of_mem hx
    rw [List.getElem_set] at hgx ⊢
    by_cases hin : n = i
    · rw [if_pos hin] at hgx ⊢
      injection hgx with hgx
      subst hgx
      exact ⟨hlo, setRow_heap w g cs cs' t _ (h.blk hn)⟩
    · rw [if_neg hin] at hgx ⊢
      have hi' : i < bs.length := by simpa using hi
      have hx' := h.own bs[i] (List.getElem_mem hi') gx hgx
      refine ⟨hx'.1, ?_⟩
      have hne : gx ≠ g := by
        rcases Nat.lt_or_ge i n with hl | hl
        · have := hp i n hi' hnl hl gx hgx
          rw [hng] at this
          exact fun e => this (by rw [e])
        · have := hp n i hnl hi' (by omega) g (by rw [hng])
          exact fun e => this (by rw [hgx, e])
      rw [setRow_other w g _ cs' hne]
      exact hx'.2
  · have e : (bs.set n (some g, cs', t)).map (·.1) = bs.map (·.1) := by
      have hng : bs[n]?.map (·.1) = some (some g) := by rw [hn]; rfl
      apply List.ext_getElem?
      intro i
      rw [List.getElem?_map, List.getElem?_map, List.getElem?_set]
      by_cases hin : n = i
      · subst hin
        rw [if_pos rfl, if_pos hnl, hng]
        rfl
      · rw [if_neg hin]
    have h1 : (bs.map (·.1)).Pairwise (fun x y => ∀ g, x = some g → y ≠ some g) := List.pairwise_map.2 h.apart
    rw [← e] at h1
    exact List.pairwise_map.1 h1
theorem setCell (h : St B w0 w bs) (n : Nat) (hn : bs[n]? = some (some g, cs, t)) (k : Nat) (v : Value) : St B w0 (w.setCell ⟨g, k, none⟩ v) (bs.set n (some g, cs.setIfInBounds k v, t)) := by
  rw [setCell_eq_setRow w g k cs t _ v (h.blk hn)]
  exact h.setRow n hn _
theorem sub {bs' : List Blk} (h : St B w0 w bs) (hs : List.Sublist bs' bs) : St B w0 w bs' := ⟨h.low, h.below, fun x hx => h.own x (hs.subset hx), h.apart.sublist hs⟩
theorem perm {bs' : List Blk} (h : St B w0 w bs) (hp : bs.Perm bs') : St B w0 w bs' :=
  ⟨h.low, h.below, fun x hx => h.own x (hp.mem_iff.2 hx), (hp.pairwise_iff (fun hxy g hy hx => hxy g hx hy)).1 h.apart⟩
theorem swap {x y : Blk} (h : St B w0 w (x :: y :: bs)) : St B w0 w (y :: x :: bs) := by
  refine ⟨h.low, h.below, fun z hz => h.own z (by simp only [List.mem_cons] at hz ⊢; rcases hz with h | h | h <;> simp [h]), ?_⟩
  have := h.apart
  simp only [List.pairwise_cons, List.mem_cons] at this ⊢
  exact ⟨fun z hz => by rcases hz with rfl | hz; exact fun g hg e => this.1 _ (.inl rfl) g e hg; exact this.2.1 z hz, fun z hz => this.1 z (.inr hz), this.2.2⟩
end St
def scalarB (P : Program) (T : TypeId) : Bool := match P.underlying T with
  | some (.struct _) | some (.array _ _) | none => false
  | some _ => true
def rowB (P : Program) (T : TypeId) : Bool := match P.underlying T with
  | some (.struct _) | some (.array _ _) => true
  | _ => false
section
variable {P : Program} {ops : Array Oper} {rest : List Oper} {o : Oper} {a af : Act} {Q : Exit → Act → World → Prop} {B : Nat} {w0 w : World} {bs : List Blk} {g k : Nat} {cs cs' : Array Value} {t T : TypeId} {v : Value} {x y : Operand} {R : World → Prop}
theorem run_load_st (h : St B w0 w bs) {n : Nat} (hn : bs[n]? = some (some g, cs, t)) (hT : scalarB P T = true) (hv : cs[k]? = some v) : (Instr.loadAt T (.pointer (some ⟨g, k, none⟩))).run P w = .ok v w := by
  unfold scalarB at hT
  cases hu : P.underlying T with
  | none => rw [hu] at hT; cases hT
  | some d =>
    have hagg : (isAgg T).run P w = .ok false w := by
      unfold isAgg
      rw [Sem.run_bind, run_underlying hu w]
      rw [hu] at hT
      cases d <;> simp_all
    have hl := h.cell hn k
    rw [hv] at hl
    simp [Instr.loadAt, Instr.sureAddr, loadVar, Sem.run_bind, hagg, hl]
theorem run_loadRow_st (h : St B w0 w bs) {n : Nat} (hn : bs[n]? = some (some g, cs, t)) (hT : rowB P T = true) (hi : (P.info? T).map (·.size) = some cs.size) : (Instr.loadAt T (.pointer (some ⟨g, 0, none⟩))).run P w = .ok (.agg cs) w := by
  unfold rowB at hT
  cases hu : P.underlying T with
  | none => rw [hu] at hT; cases hT
  | some d =>
    rw [hu] at hT
    simp only [Instr.loadAt, Instr.sureAddr, Sem.run_bind, Sem.run_pure, Result.andThen_ok]
    exact run_loadVar_row w g t T cs (0, 0) d (h.blk hn) hu (by cases d <;> simp_all) hi
theorem run_store_st (h : St B w0 w bs) {n : Nat} (hn : bs[n]? = some (some g, cs, t)) (hi : (P.info? T).map (·.size) = some 1) (h1 : v.oneCell' = true) (hk : k < cs.size) : (Instr.storeAt T (.pointer (some ⟨g, k, none⟩)) v).run P w = .ok () (w.setCell ⟨g, k, none⟩ v) := by
  have hc : v.cells = #[v] := by cases v <;> first | rfl | (simp [Value.oneCell'] at h1)
  have hst : (store ⟨g, k, none⟩ v).run P w = .ok () (w.setCell ⟨g, k, none⟩ v) := by
    rw [run_store P w _ v _ h1, h.cell hn k, h.free hn k, Array.getElem?_eq_getElem hk]
    rfl
  cases hq : P.info? T with
  | none => simp [hq] at hi
  | some i =>
    have hs : i.size = 1 := by simpa [hq] using hi
    simp [Instr.storeAt, Instr.sureAddr, storeVar, sizeOf, typeInfo, hq, hc, hs, storeCells, Addr.add, hst]
theorem run_storeRow_st (h : St B w0 w bs) {n : Nat} (hn : bs[n]? = some (some g, cs, t)) (hi : (P.info? T).map (·.size) = some cs'.size) (ho : cs.size = cs'.size) (h1 : cs'.all (·.oneCell') = true) : (Instr.storeAt T (.pointer (some ⟨g, 0, none⟩)) (.agg cs')).run P w = .ok () (w.setRow g cs') := by
  simp only [Instr.storeAt, Instr.sureAddr, Sem.run_bind, Sem.run_pure, Result.andThen_ok]
  exact run_storeVar_row w g t T cs cs' (h.blk hn) hi ho h1
theorem xl_box (h : St B w0 w bs) (hgd : o.guard = none) (N : Tmp) (hN : o.dst = some N) (cs : Array Value) (t : TypeId)
    (hrun : (execOp a.eval o).run P w = .ok (.value (.pointer (some ⟨w.heap.size, 0, none⟩))) (w.alloc (.cells cs t (0, 0))))
    (K : ∀ g w1, St B w0 w1 ((some g, cs, t) :: bs) → wpList P ops Q rest (a.put (some N) (.pointer (some ⟨g, 0, none⟩))) w1) : wpList P ops Q (o :: rest) a w := by
  rw [← hN] at K
  exact Kd.event_run hgd hrun (K _ _ (h.alloc cs t))
theorem xl_load (h : St B w0 w bs) (n g : Nat) (cs : Array Value) (t : TypeId) (hn : bs[n]? = some (some g, cs, t)) (hgd : o.guard = none) (T : TypeId) (x : Operand) (ho : o.op = .load T x) (k : Nat) (hx : a.eval x = .pointer (some ⟨g, k, none⟩)) (hT : scalarB P T = true) (v : Value) (hv : cs[k]? = some v)
    (K : wpList P ops Q rest (a.put o.dst v) w) : wpList P ops Q (o :: rest) a w := by
  refine Kd.event_run (v := v) hgd ?_ K
  unfold execOp
  simp only [ho, hx, Sem.run_bind, run_load_st h hn hT hv, Result.andThen_ok]
  rfl
theorem xl_loadRow (h : St B w0 w bs) (n g : Nat) (cs : Array Value) (t : TypeId) (hn : bs[n]? = some (some g, cs, t)) (hgd : o.guard = none) (T : TypeId) (x : Operand) (ho : o.op = .load T x) (hx : a.eval x = .pointer (some ⟨g, 0, none⟩)) (hT : rowB P T = true) (hi : (P.info? T).map (·.size) = some cs.size)
    (K : wpList P ops Q rest (a.put o.dst (.agg cs)) w) : wpList P ops Q (o :: rest) a w := by
  refine Kd.event_run (v := .agg cs) hgd ?_ K
  unfold execOp
  simp only [ho, hx, Sem.run_bind, run_loadRow_st h hn hT hi, Result.andThen_ok]
  rfl
theorem run_skip_of {w1 : World} {T : TypeId} {x y : Operand} {o : Oper} (ho : o.op = .store T x y) (h : (Instr.storeAt T (a.eval x) (a.eval y)).run P w = .ok () w1) : (execOp a.eval o).run P w = .ok .skip w1 := by
  unfold execOp
  simp only [ho, Sem.run_bind, h, Result.andThen_ok]
  rfl
theorem xl_store (h : St B w0 w bs) (n g : Nat) (cs : Array Value) (t : TypeId) (hn : bs[n]? = some (some g, cs, t)) (hgd : o.guard = none) (hN : o.dst = none) (T : TypeId) (x y : Operand) (ho : o.op = .store T x y) (k : Nat) (hx : a.eval x = .pointer (some ⟨g, k, none⟩)) (v : Value) (hy : a.eval y = v)
    (hi : (P.info? T).map (·.size) = some 1) (h1 : v.oneCell' = true) (hk : k < cs.size)
    (K : ∀ w1, St B w0 w1 (bs.set n (some g, cs.setIfInBounds k v, t)) → wpList P ops Q rest a w1) : wpList P ops Q (o :: rest) a w := by
  refine wpList_plain hgd fun K' hK => ?_
  unfold Oper.wp
  rw [run_skip_of ho (by rw [hx, hy]; exact run_store_st h hn hi h1 hk)]
  show K' (a.put o.dst undef) _
  rw [hN]
  exact hK _ _ (K _ (h.setCell n hn k v))
theorem xl_storeRow (h : St B w0 w bs) (n g : Nat) (cs : Array Value) (t : TypeId) (hn : bs[n]? = some (some g, cs, t)) (hgd : o.guard = none) (hN : o.dst = none) (T : TypeId) (x y : Operand) (ho : o.op = .store T x y) (hx : a.eval x = .pointer (some ⟨g, 0, none⟩)) (cs' : Array Value) (hy : a.eval y = .agg cs')
    (hi : (P.info? T).map (·.size) = some cs'.size) (hs : cs.size = cs'.size) (h1 : cs'.all (·.oneCell') = true)
    (K : ∀ w1, St B w0 w1 (bs.set n (some g, cs', t)) → wpList P ops Q rest a w1) : wpList P ops Q (o :: rest) a w := by
  refine wpList_plain hgd fun K' hK => ?_
  unfold Oper.wp
  rw [run_skip_of ho (by rw [hx, hy]; exact run_storeRow_st h hn hi hs h1)]
  show K' (a.put o.dst undef) _
  rw [hN]
  exact hK _ _ (K _ (h.setRow n hn cs'))
theorem may_load (h : St B w0 w bs) (n g : Nat) (cs : Array Value) (t : TypeId) (hn : bs[n]? = some (some g, cs, t)) (hgd : o.guard = none) (T : TypeId) (x : Operand) (ho : o.op = .load T x) (k : Nat) (hx : af.eval x = .pointer (some ⟨g, k, none⟩)) (hT : scalarB P T = true) (v : Value) (hv : cs[k]? = some v)
    (hd : ∀ d, o.dst = some d → af.eval (.tmp d) = v) (K : R w) : OpMay P ops o af Q w R := by
  refine may_value (v := v) hgd ?_ hd K
  unfold execOp
  simp only [ho, hx, Sem.run_bind, run_load_st h hn hT hv, Result.andThen_ok]
  rfl
theorem may_loadRow (h : St B w0 w bs) (n g : Nat) (cs : Array Value) (t : TypeId) (hn : bs[n]? = some (some g, cs, t)) (hgd : o.guard = none) (T : TypeId) (x : Operand) (ho : o.op = .load T x) (hx : af.eval x = .pointer (some ⟨g, 0, none⟩)) (hT : rowB P T = true) (hi : (P.info? T).map (·.size) = some cs.size)
    (hd : ∀ d, o.dst = some d → af.eval (.tmp d) = .agg cs) (K : R w) : OpMay P ops o af Q w R := by
  refine may_value (v := .agg cs) hgd ?_ hd K
  unfold execOp
  simp only [ho, hx, Sem.run_bind, run_loadRow_st h hn hT hi, Result.andThen_ok]
  rfl
theorem may_store (h : St B w0 w bs) (n g : Nat) (cs : Array Value) (t : TypeId) (hn : bs[n]? = some (some g, cs, t)) (hgd : o.guard = none) (hN : o.dst = none) (T : TypeId) (x y : Operand) (ho : o.op = .store T x y) (k : Nat) (hx : af.eval x = .pointer (some ⟨g, k, none⟩)) (v : Value) (hy : af.eval y = v)
    (hi : (P.info? T).map (·.size) = some 1) (h1 : v.oneCell' = true) (hk : k < cs.size)
    (K : ∀ w1, St B w0 w1 (bs.set n (some g, cs.setIfInBounds k v, t)) → R w1) : OpMay P ops o af Q w R :=
  may_skip hgd hN (run_skip_of ho (by rw [hx, hy]; exact run_store_st h hn hi h1 hk)) (K _ (h.setCell n hn k v))
theorem may_storeRow (h : St B w0 w bs) (n g : Nat) (cs : Array Value) (t : TypeId) (hn : bs[n]? = some (some g, cs, t)) (hgd : o.guard = none) (hN : o.dst = none) (T : TypeId) (x y : Operand) (ho : o.op = .store T x y) (hx : af.eval x = .pointer (some ⟨g, 0, none⟩)) (cs' : Array Value) (hy : af.eval y = .agg cs')
    (hi : (P.info? T).map (·.size) = some cs'.size) (hs : cs.size = cs'.size) (h1 : cs'.all (·.oneCell') = true)
    (K : ∀ w1, St B w0 w1 (bs.set n (some g, cs', t)) → R w1) : OpMay P ops o af Q w R :=
  may_skip hgd hN (run_skip_of ho (by rw [hx, hy]; exact run_storeRow_st h hn hi hs h1)) (K _ (h.setRow n hn cs'))
end
end Go.Proofs.YtiklcpacbclpnaaDoorW.PrintLast
end
section
set_option linter.unusedVariables false
namespace Go.Proofs.YtiklcpacbclpnaaDoorW.PrintLast
open Go.RowKit Go.Proofs.YtiklcpacbclpnaaDoorW.PrintWords
section
variable {P : Program} {ops : Array Oper} {o : Oper} {af : Act} {Q : Exit → Act → World → Prop} {w : World} {R : World → Prop}
theorem may_move (hgd : o.guard = none) (x : Operand) (ho : o.op = .move x ∨ o.op = .assign x) (v : Value) (hx : af.eval x = v) (hd : ∀ d, o.dst = some d → af.eval (.tmp d) = v) (K : R w) : OpMay P ops o af Q w R := by
  refine may_value (v := v) hgd ?_ hd K
  unfold execOp
  rcases ho with ho | ho <;> simp only [ho, hx] <;> rfl
theorem may_field (hgd : o.guard = none) (T : TypeId) (x : Operand) (i : Nat) (ho : o.op = .fieldAddr T x i) (p : Value) (hx : af.eval x = p) (v : Value) (hr : ∀ w, (Instr.fieldAt T p i).run P w = .ok v w) (hd : ∀ d, o.dst = some d → af.eval (.tmp d) = v) (K : R w) : OpMay P ops o af Q w R := by
  refine may_value (v := v) hgd ?_ hd K
  unfold execOp
  simp only [ho, hx, Sem.run_bind, hr, Result.andThen_ok]
  rfl
theorem may_index (hgd : o.guard = none) (T : TypeId) (x y : Operand) (ho : o.op = .indexAddr T x y) (p q : Value) (hx : af.eval x = p) (hy : af.eval y = q) (v : Value) (hr : ∀ w, (Instr.indexAt T p q).run P w = .ok v w) (hd : ∀ d, o.dst = some d → af.eval (.tmp d) = v) (K : R w) : OpMay P ops o af Q w R := by
  refine may_value (v := v) hgd ?_ hd K
  unfold execOp
  simp only [ho, hx, hy, Sem.run_bind, hr, Result.andThen_ok]
  rfl
theorem may_build (hgd : o.guard = none) (T : TypeId) (parts : Array (Nat × Operand)) (ho : o.op = .build T parts) (ps : Array (Nat × Value)) (hp : (parts.map fun (i, x) => (i, af.eval x)) = ps) (v : Value) (hr : ∀ w, (Instr.build T ps).run P w = .ok v w) (hd : ∀ d, o.dst = some d → af.eval (.tmp d) = v) (K : R w) : OpMay P ops o af Q w R := by
  refine may_value (v := v) hgd ?_ hd K
  unfold execOp
  simp only [ho, hp, Sem.run_bind, hr, Result.andThen_ok]
  first | done | rfl
theorem may_bin (hgd : o.guard = none) (b : BinOp) (T U : TypeId) (x y : Operand) (ho : o.op = .binOp b T x y U) (p q : Value) (hx : af.eval x = p) (hy : af.eval y = q) (v : Value) (hg : eqGuard b T x y p q = pure ()) (hr : ∀ w, (binOp b T p q).run P w = .ok v w) (hd : ∀ d, o.dst = some d → af.eval (.tmp d) = v) (K : R w) : OpMay P ops o af Q w R := by
  refine may_value (v := v) hgd ?_ hd K
  unfold execOp
  simp only [ho, hx, hy, hg, Sem.run_bind, Sem.run_pure, hr, Result.andThen_ok]
theorem may_convert (hgd : o.guard = none) (S T : TypeId) (x : Operand) (ho : o.op = .convert S T x) (p : Value) (hx : af.eval x = p) (v : Value) (hr : ∀ w, (convert S T p).run P w = .ok v w) (hd : ∀ d, o.dst = some d → af.eval (.tmp d) = v) (K : R w) : OpMay P ops o af Q w R := by
  refine may_value (v := v) hgd ?_ hd K
  unfold execOp
  simp only [ho, hx, Sem.run_bind, hr, Result.andThen_ok]
  rfl
theorem may_slice (hgd : o.guard = none) (T : TypeId) (x : Operand) (lo hi mx : Option Operand) (ho : o.op = .slice T x lo hi mx) (p : Value) (l h m : Option Value) (hx : af.eval x = p) (hl : lo.map af.eval = l) (hh : hi.map af.eval = h) (hm : mx.map af.eval = m) (v : Value) (hr : ∀ w, (Instr.sliceAt T p l h m).run P w = .ok v w) (hd : ∀ d, o.dst = some d → af.eval (.tmp d) = v) (K : R w) : OpMay P ops o af Q w R := by
  refine may_value (v := v) hgd ?_ hd K
  unfold execOp
  simp only [ho, hx, hl, hh, hm, Sem.run_bind, hr, Result.andThen_ok]
  rfl
theorem may_extract (hgd : o.guard = none) (x : Operand) (i : Nat) (ho : o.op = .extract x i) (p : Value) (hx : af.eval x = p) (v : Value) (hr : ∀ w, (Instr.extract p i).run P w = .ok v w) (hd : ∀ d, o.dst = some d → af.eval (.tmp d) = v) (K : R w) : OpMay P ops o af Q w R := by
  refine may_value (v := v) hgd ?_ hd K
  unfold execOp
  simp only [ho, hx, Sem.run_bind, hr, Result.andThen_ok]
  rfl
theorem may_goes (hgd : o.guard = none) (f : FuncId) (fn : Func) (hf : P.funcs[f]? = some fn) (hname : (fn.name == "runtime.NumGoroutine") = false) (hb : fn.body.isSome = true) (as1 : Array Operand) (ts : Array TypeId) (ho : o.op = .call { callee := .value (.func f), args := as1, argTypes := ts }) (args : Array Value) (hargs : as1.map af.eval = args) (v : Value)
    (hd : ∀ d, o.dst = some d → af.eval (.tmp d) = v) (h : Calls P f args w fun e w' => e = .returned v ∧ R w') : OpMay P ops o af Q w R := by
  refine may_call (f := f) (args := args) hgd ?_ (h.mono (fun e w' he => ⟨v, he.1, hd, he.2⟩))
  have he := enters_ hf hname hb args w
  unfold execOp
  simp [ho, resolve, Act.eval, Deferred.ofValue, invoke, hargs, he]
theorem may_goesV (hgd : o.guard = none) (f : FuncId) (fn : Func) (hf : P.funcs[f]? = some fn) (hname : (fn.name == "runtime.NumGoroutine") = false) (hb : fn.body.isSome = true) (s : Tmp) (as1 : Array Operand) (ts : Array TypeId) (ho : o.op = .call { callee := .value (.tmp s), args := as1, argTypes := ts }) (hs : af.eval (.tmp s) = .func (.func f) #[] #[]) (args : Array Value) (hargs : as1.map af.eval = args) (v : Value)
    (hd : ∀ d, o.dst = some d → af.eval (.tmp d) = v) (h : Calls P f args w fun e w' => e = .returned v ∧ R w') : OpMay P ops o af Q w R := by
  refine may_call (f := f) (args := args) hgd ?_ (h.mono (fun e w' he => ⟨v, he.1, hd, he.2⟩))
  have := runV_ (w := w) hf hname hb args ho hs hargs
  simpa using this
end
section
variable {P : Program} {ops : Array Oper} {rest : List Oper} {o : Oper} {a : Act} {Q : Exit → Act → World → Prop} {w : World}
theorem xl_val (hgd : o.guard = none) (v : Value) (hr : (execOp a.eval o).run P w = .ok (.value v) w) (K : wpList P ops Q rest (a.put o.dst v) w) : wpList P ops Q (o :: rest) a w := Kd.event_run hgd hr K
theorem xl_index (hgd : o.guard = none) (T : TypeId) (x y : Operand) (ho : o.op = .indexAddr T x y) (p q : Value) (hx : a.eval x = p) (hy : a.eval y = q) (v : Value) (hr : ∀ w, (Instr.indexAt T p q).run P w = .ok v w) (K : wpList P ops Q rest (a.put o.dst v) w) : wpList P ops Q (o :: rest) a w := by
  refine Kd.event_run (v := v) hgd ?_ K
  unfold execOp
  simp only [ho, hx, hy, Sem.run_bind, hr, Result.andThen_ok]
  rfl
theorem xl_bin (hgd : o.guard = none) (b : BinOp) (T U : TypeId) (x y : Operand) (ho : o.op = .binOp b T x y U) (p q : Value) (hx : a.eval x = p) (hy : a.eval y = q) (v : Value) (hg : eqGuard b T x y p q = pure ()) (hr : ∀ w, (binOp b T p q).run P w = .ok v w) (K : wpList P ops Q rest (a.put o.dst v) w) : wpList P ops Q (o :: rest) a w := by
  refine Kd.event_run (v := v) hgd ?_ K
  unfold execOp
  simp only [ho, hx, hy, hg, Sem.run_bind, Sem.run_pure, hr, Result.andThen_ok]
theorem run_add (T : TypeId) (k : IntKind) (x y r : Int) (h : k.wrap (x + y) = r) (w : World) : (binOp .add T (.int k x) (.int k y)).run P w = .ok (.int k r) w := by
  rw [binOp_add]
  simp [Op.intArith, h]
theorem run_mul (T : TypeId) (k : IntKind) (x y r : Int) (h : k.wrap (x * y) = r) (w : World) : (binOp .mul T (.int k x) (.int k y)).run P w = .ok (.int k r) w := by
  rw [binOp_mul]
  simp [Op.intArith, h]
end
end Go.Proofs.YtiklcpacbclpnaaDoorW.PrintLast
end
section
set_option linter.unusedVariables false
set_option linter.unusedSimpArgs false
namespace Go.Proofs.YtiklcpacbclpnaaDoor.P
open Go.RowKit Go.Proofs.YtiklcpacbclpnaaDoorW.PrintWords Go.Proofs.YtiklcpacbclpnaaDoorW.PrintLast Go.Proofs.YtiklcpacbclpnaaDoorW.PrintMore
def cpl (R : List Int) (pc : Int) : List Value := (R ++ [pc]).map (Value.int .u32)
def cpv (R : List Int) (pc : Int) : Array Value := (cpl R pc).toArray
theorem cpv_size {R : List Int} (pc : Int) (h : R.length = 16) : (cpv R pc).size = 17 := by unfold cpv cpl; simp [h]
theorem cpu_info {R : List Int} (pc : Int) (h : R.length = 16) : (Tryd.prog.info? 25).map (·.size) = some (cpv R pc).size := by rw [cpv_size pc h]; kernel_rfl
theorem cpv_pc {R : List Int} (pc : Int) (h : R.length = 16) : (cpv R pc)[16]? = some (.int .u32 pc) := by
  unfold cpv cpl
  rw [List.getElem?_toArray, List.map_append, List.getElem?_append_right (by simp [h])]
  simp [h]
theorem cpv_at {R : List Int} (pc : Int) (h : R.length = 16) {k : Nat} (hk : k < 16) : (cpv R pc)[k]? = some (.int .u32 (R.getD k 0)) := by
  unfold cpv cpl
  rw [List.getElem?_toArray, List.map_append, List.getElem?_append_left (by simp [h, hk]), List.getElem?_map, List.getElem?_eq_getElem (by omega)]
  simp [List.getD_eq_getElem?_getD, List.getElem?_eq_getElem (show k < R.length by omega)]
theorem cpv_one (R : List Int) (pc : Int) : (cpv R pc).all (·.oneCell') = true := by
  unfold cpv cpl
  simp [Value.oneCell']
theorem cpv_set {R : List Int} (pc : Int) (h : R.length = 16) {k : Nat} (hk : k < 16) (v : Int) : (cpv R pc).setIfInBounds k (.int .u32 v) = cpv (R.set k v) pc := by
  unfold cpv cpl
  rw [List.setIfInBounds_toArray, List.map_append, List.map_append, List.set_append_left _ _ (by simp [h, hk]), List.map_set]
theorem cpv_set16 {R : List Int} (pc : Int) (h : R.length = 16) (v : Int) : (cpv R pc).setIfInBounds 16 (.int .u32 v) = cpv R v := by
  unfold cpv cpl
  rw [List.setIfInBounds_toArray, List.map_append, List.map_append, List.set_append_right _ _ (by simp [h])]
  simp [h]
theorem same_add {B : Nat} {w0 w w1 : World} {bs : List Blk} {v : Value} {l : List ByteArray} {ok : Nat → Prop} (h : St B w0 w bs) (ho : Kd.R Kd.string 9 w1 B ok v ([] ++ l)) (hg : w.grownBy w1 (Value.slice none 0 0).ownBlock) (hf : v.ownBlock = (Value.slice none 0 0).ownBlock ∨ ∃ b, v.ownBlock = some b ∧ w.heap.size ≤ b) :
    ∃ cs, St B w0 w1 ((v.ownBlock, cs, 9) :: bs) ∧ ∀ w2 : World, (∀ g, v.ownBlock = some g → w2.heap[g]? = some (.cells cs 9 (0, 0))) → Kd.R Kd.string 9 w2 B (fun _ => True) v l := by
  rw [List.nil_append] at ho
  have h1 : St B w0 w1 bs := h.grown hg (fun k hk => by simp [Value.ownBlock] at hk)
  have hown := Kd.own_of_R ho
  obtain ⟨hlen, hcase⟩ := hown
  rcases hcase with ⟨rfl, hn⟩ | ⟨g, cap, cur, rfl, hb, hcell, hcap, hmax, hsz, htk⟩
  · refine ⟨#[], h1.add none #[] 9 (fun g hg => by cases hg), fun w2 _ => ?_⟩
    exact Kd.R_of_own ⟨hlen, .inl ⟨rfl, hn⟩⟩ (fun _ _ => trivial)
  · have hfr : w.heap.size ≤ g := by
      rcases hf with hf | ⟨b, hf, hbb⟩
      · simp [Value.ownBlock] at hf
      · simp [Value.ownBlock] at hf; omega
    refine ⟨cur, h1.add (some g) cur 9 (fun g' hg' => ?_), fun w2 h2 => ?_⟩
    · injection hg' with hg'
      subst hg'
      exact ⟨hb, hcell, fun x hx e => by have := h.lt hx e; omega⟩
    · exact Kd.R_of_own ⟨hlen, .inr ⟨g, cap, cur, rfl, hb, h2 g rfl, hcap, hmax, hsz, htk⟩⟩ (fun _ _ => trivial)
def StepEnds (w : World) (R : List Int) (pc : Int) (l0 l1 : List ByteArray) (kind n : Int) (e : Ending) (w' : World) : Prop :=
  ∃ u, e = .returned (.tuple #[.agg (cpv R pc), u, .agg #[.int .i64 kind, .int .u32 n]]) ∧ Kd.R Kd.string 9 w' w.heap.size (fun _ => True) u l1 ∧ Below w.heap.size w w'
end Go.Proofs.YtiklcpacbclpnaaDoor.P
end
section
set_option linter.unusedVariables false
set_option linter.unusedSimpArgs false
namespace Go.Proofs.YtiklcpacbclpnaaDoor.P
open Go.RowKit Go.Proofs.YtiklcpacbclpnaaDoorW.PrintWords Go.Proofs.YtiklcpacbclpnaaDoorW.PrintLast Go.Proofs.YtiklcpacbclpnaaDoorW.PrintMore
attribute [local go_sem] isSome_setCell_eq
set_option maxHeartbeats 1000000 in
set_option maxRecDepth 100000 in
theorem step_fault (G : ByteArray → Int) (hG : ∀ b : ByteArray, b.size ≤ 8 → ∃ k, num_Get.f k b = some (G b)) (R : List Int) (pc : Int) (A : Option Addr) (c : Nat) (l : List ByteArray) (s : List Pg) (w : World) (hR : R.length = 16) (hpc : 0 ≤ pc) (hr : Kd.C Kd.string w A l.length l) (hc : l.length ≤ c) (hs : s.length = 16) (hl : l.length ≤ 100000) (hf : (loadT G l s pc 4).2 = false) :
    Calls Tryd.prog 7 #[.agg (cpv R pc), .agg (spv s), .slice A l.length c] w (StepEnds w R pc l l 2 pc) := by
  have HS := Aside0.mk (St.start w)
  have HR := Aside0.mk hr
  have HC := Aside0.mk hc
  have L4 := Aside0.mk (fun (w : World) (hr : Kd.C Kd.string w A l.length l) => load_calls G hG A c l s pc 4 w hr hc hs hpc (Or.inr rfl))
  revert L4 hf
  generalize loadT G l s pc 4 = r4
  obtain ⟨r40, r41⟩ := r4
  intro hf L4
  dsimp only at L4 hf
  subst hf
  have hu25 := Tryd.underlying25
  have HL := Aside0.mk hl
  clear hr hc hG hl
  go_enter Tryd.func7, Tryd.ntmps7
  go_wp2_with (first | ((with_reducible refine gate_dst (N := 3) rfl ?_); refine xl_box HS.out rfl 3 rfl (cpv R pc) 25 ?hr ?_; (case hr => first | (go_simp; done) | (go_simp; rfl)); intro gc w_ hs_; clear HS; have HS := Aside0.mk hs_; clear hs_) | ((with_reducible refine gate_dst (N := 4) rfl ?_); refine xl_box HS.out rfl 4 rfl (spv s) 29 ?hr ?_; (case hr => first | (go_simp; done) | (go_simp; rfl)); intro gs w_ hs_; clear HS; have HS := Aside0.mk hs_; clear hs_) | ((with_reducible refine gate_dst (N := 6) rfl ?_); refine xl_box HS.out rfl 6 rfl (Array.replicate 17 (.int .u32 0)) 25 ?hr ?_; (case hr => first | (go_simp; done) | (go_simp; rfl)); intro gr w_ hs_; clear HS; have HS := Aside0.mk hs_; clear hs_) | ((with_reducible refine gate_dst (N := 8) rfl ?_); refine xl_box HS.out rfl 8 rfl #[.int .i64 0, .int .u32 0] 35 ?hr ?_; (case hr => first | (go_simp; done) | (go_simp; rfl)); intro ge w_ hs_; clear HS; have HS := Aside0.mk hs_; clear hs_) | ((with_reducible refine gate_dst (N := 27) rfl ?_); refine Kd.R_append_row Value.string ByteArray.empty (h1 := fun _ => rfl) (w0 := w) w.heap.size rfl (.const (.slice none 0 0)) (.tmp 26) 30 9 (.string ByteArray.empty) 16 rfl Tryd.underlying30 (by kernel_rfl) rfl (by decide) (.slice none 0 0) [] l A l.length c (fun _ => True) rfl rfl (fun _ _ => trivial) (Kd.R_nil Kd.string 9 _ w.heap.size _) (Kd.C_below HR.out HS.out.below) HS.out.below HS.out.low (by have := HL.out; simp only [List.length_nil]; omega) ?_; intro v5 w5 ho hb hgr hfr; obtain ⟨c5, hs5, hk5⟩ := same_add HS.out ho hgr hfr; clear HS; have HS := Aside0.mk hs5; have HO := Aside0.mk hk5; clear hs5 hk5 ho hb hgr hfr) | ((with_reducible refine gate_dst (N := 30) rfl ?_); refine xl_loadRow HS.out 3 gs (spv s) 29 rfl rfl 29 (.tmp 4) rfl rfl (by kernel_rfl) (space_info hs) ?_) | ((with_reducible refine gate_dst (N := 32) rfl ?_); refine xl_load HS.out 4 gc (cpv R pc) 25 rfl rfl 22 (.tmp 31) rfl 16 rfl (by kernel_rfl) (.int .u32 pc) (cpv_pc pc hR) ?_) | ((with_reducible refine gate_callee (f := 13) rfl ?_); refine goesL_ (some 33) rfl rfl Tryd.func13 (by kernel_rfl) rfl #[.slice A l.length c, .agg (spv s), .int .u32 pc, .int .i64 4] rfl (by (try simp only [List.map_toArray, List.map_cons, List.map_nil]); first | done | rfl) ?_; refine (L4.out _ (Kd.C_below HR.out HS.out.below)).mono ?_; rintro e w_ ⟨rfl, hb_⟩; refine ⟨_, rfl, ?_⟩; have hs_ := HS.out.later hb_; clear HS; have HS := Aside0.mk hs_; clear hs_; clear hb_))
  refine region_det [(38, .agg (cpv R pc)), (39, v5), (40, .pointer (some ⟨gc, 16, none⟩)), (41, .int .u32 pc), (42, .agg #[.int .i64 2, .int .u32 pc]), (7, v5)] (fun b w' => St w.heap.size w w' [(v5.ownBlock, c5, 9), (some ge, bif b 7 then #[.int .i64 2, .int .u32 pc] else #[.int .i64 0, .int .u32 0], 35), (some gr, bif b 5 then cpv R pc else (Array.replicate 17 (.int .u32 0)), 25), (some gs, spv s, 29), (some gc, cpv R pc, 25)]) (by kernel_rfl) (by kernel_rfl) (by kernel_rfl) (by kernel_rfl) HS.out.drew (fun af E => ⟨?_, ?_, ?_, ?_, ?_, ?_, ?_, ?_, trivial⟩) ?_
  · exact fun b w' _ _ h => may_loadRow h 4 gc (cpv R pc) 25 rfl rfl 25 (.tmp 3) rfl (by rw [E]; rfl) (by kernel_rfl) (cpu_info pc hR) (fun d hd => by cases hd; rw [E]; rfl) h
  · exact fun b w' _ _ h => may_move rfl _ (by first | exact .inl rfl | exact .inr rfl) v5 (by rw [E]; rfl) (fun d hd => by cases hd; rw [E]; rfl) h
  · exact fun b w' _ _ h => may_field rfl 25 (.tmp 3) 1 rfl (.pointer (some ⟨gc, 0, none⟩)) (by rw [E]; rfl) (.pointer (some ⟨gc, 16, none⟩)) (fun w => by first | (go_simp; done) | (go_simp; rfl)) (fun d hd => by cases hd; rw [E]; rfl) h
  · exact fun b w' _ _ h => may_load h 4 gc (cpv R pc) 25 rfl rfl 22 (.tmp 40) rfl 16 (by rw [E]; rfl) (by kernel_rfl) (.int .u32 pc) (cpv_pc pc hR) (fun d hd => by cases hd; rw [E]; rfl) h
  · exact fun b w' _ _ h => may_build rfl 35 _ rfl #[(0, .int .i64 2), (1, .int .u32 pc)] (by rw [E]; (try simp only [List.map_toArray, List.map_cons, List.map_nil]); rfl) (.agg #[.int .i64 2, .int .u32 pc]) (fun w => by first | (go_simp; done) | (go_simp; rfl)) (fun d hd => by cases hd; rw [E]; rfl) h
  · exact fun b w' _ _ h => may_storeRow h 2 gr _ 25 rfl rfl rfl 25 (.tmp 6) (.tmp 38) rfl (by rw [E]; rfl) (cpv R pc) (by rw [E]; rfl) (cpu_info pc hR) (by cases b 5 <;> simp [cpv_size pc hR]) (cpv_one R pc) (fun _ h => h)
  · exact fun b w' _ _ h => may_move rfl _ (by first | exact .inl rfl | exact .inr rfl) v5 (by rw [E]; rfl) (fun d hd => by cases hd; rw [E]; rfl) h
  · exact fun b w' _ _ h => may_storeRow h 1 ge _ 35 rfl rfl rfl 35 (.tmp 8) (.tmp 42) rfl (by rw [E]; rfl) #[.int .i64 2, .int .u32 pc] (by rw [E]; rfl) (by kernel_rfl) (by cases b 7 <;> rfl) (by simp [Value.oneCell']) (fun _ h => h)
  intro b w7 hall h
  rw [hall 7 (by decide), hall 5 (by decide)] at h
  simp only [cond_true] at h
  clear HS
  have HS := Aside0.mk h
  clear h hall
  simp only [puts]
  go_wp2
  refine bodyPost_ret (v := .tuple #[.agg (cpv R pc), v5, .agg #[.int .i64 2, .int .u32 pc]]) (results_list (rs := [.cell 6 25, .tmp 7, .cell 8 35]) (vs := [.agg (cpv R pc), v5, .agg #[.int .i64 2, .int .u32 pc]]) rfl (by simp) (.cell gr 25 (cpv R pc) (0, 0) _ rfl (HS.out.blk (n := 2) rfl) Tryd.underlying25 rfl (cpu_info pc hR) (.tmp (.cell ge 35 _ (0, 0) _ rfl (HS.out.blk (n := 1) rfl) Tryd.underlying35 rfl (by kernel_rfl) .nil)))) rfl ?_
  exact ⟨v5, rfl, HO.out _ (fun g hg => (HS.out.own _ (List.mem_of_getElem? (i := 0) rfl) g hg).2), HS.out.below⟩
end Go.Proofs.YtiklcpacbclpnaaDoor.P
end
