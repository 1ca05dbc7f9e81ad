-- Printed for this claim and put together by wip/tools/prune.py.
import Derived.Laws.BitsLemmas
import Derived.Test.YtgjhabeoaejcdaaMBytes2
import Derived.Test.YtgjhabeoaejcdaaMBytes3
import Derived.Test.YtgjhabeoaejcdaaMBytes4
import Derived.Test.YtgjhabeoaejcdaaMBytes5
set_option linter.unusedVariables false
set_option linter.unusedSimpArgs false
section
namespace Go.Proofs.Ytgjhabeoaejcdaa.P
open Go.RowKit Go.Proofs.YtgjhabeoaejcdaaW.PrintWords Go.Proofs.YtgjhabeoaejcdaaW.PrintLast Go.Proofs.YtgjhabeoaejcdaaW.PrintMore
attribute [local go_sem] max2_int min2_int max_two min_two max_three min_three max_four min_four
set_option linter.unusedVariables false
set_option linter.unusedSimpArgs false
def hibernacleref12_text.l0 : Nat → ByteArray → Int → Int → List Int → ByteArray → Int → Int → Option (ByteArray)
  | 0, _, _, _, _, _, _, _ => none
  | k + 1, x3, x7, x8, x166000, x166001, x166002, x166003 => if x8 < x7 then (if 0 ≤ x8 then (if x8 < (x166000.length : Int) then ((hibernacleref01_Put.f k (IntKind.u64.wrap (rd x166000 x8)) 4).bind fun t167 => (if x3.size + t167.size ≤ 9223372036854775807 then (hibernacleref12_text.l0 k (x3 ++ t167) x7 (wrap64 (x8 + 1)) x166000 x166001 x166002 x166003) else (none))) else (none)) else (none)) else (some x3)
def hibernacleref12_text.f (k : Nat) (l0_0 : List Int) (a0_1 : ByteArray) (a0_2 : Int) (a0_3 : Int) : Option (ByteArray) := hibernacleref12_text.l0 k (⟨#[]⟩ : ByteArray) (l0_0.length : Int) 0 l0_0 a0_1 a0_2 a0_3
theorem hibernacleref12_text.mono_l : ∀ k, (∀ y0 y1 y2 y3 y4 y5 y6, LeO (hibernacleref12_text.l0 k y0 y1 y2 y3 y4 y5 y6) (hibernacleref12_text.l0 (k + 1) y0 y1 y2 y3 y4 y5 y6))
  | 0 => fun _ _ _ _ _ _ _ r h => by simp [hibernacleref12_text.l0] at h
  | k + 1 => by
    have ih0 := hibernacleref12_text.mono_l k
    · intro y0 y1 y2 y3 y4 y5 y6
      unfold hibernacleref12_text.l0
      repeat' first
      | (with_reducible exact ih0 _ _ _ _ _ _ _)
      | (with_reducible exact hibernacleref01_Put.mono _ _ _)
      | (with_reducible exact LeO.refl _)
      | (with_reducible exact LeO.none _)
      | (with_reducible refine LeO.ite ?_ ?_)
      | (with_reducible refine LeO.bind ?_ (fun _ => ?_))
      | exact ih0 _ _ _ _ _ _ _
      | exact hibernacleref01_Put.mono _ _ _
      | exact LeO.none _
      | refine LeO.ite ?_ ?_
      | refine LeO.bind ?_ (fun _ => ?_)
theorem hibernacleref12_text.mono : ∀ a0 a1 a2 a3 k, LeO (hibernacleref12_text.f k a0 a1 a2 a3) (hibernacleref12_text.f (k + 1) a0 a1 a2 a3) := by
  intro a0 a1 a2 a3 k
  have ih0 := hibernacleref12_text.mono_l k
  unfold hibernacleref12_text.f
  repeat' first
      | (with_reducible exact ih0 _ _ _ _ _ _ _)
      | (with_reducible exact hibernacleref01_Put.mono _ _ _)
      | (with_reducible exact LeO.refl _)
      | (with_reducible exact LeO.none _)
      | (with_reducible refine LeO.ite ?_ ?_)
      | (with_reducible refine LeO.bind ?_ (fun _ => ?_))
      | exact ih0 _ _ _ _ _ _ _
      | exact hibernacleref01_Put.mono _ _ _
      | exact LeO.none _
      | refine LeO.ite ?_ ?_
      | refine LeO.bind ?_ (fun _ => ?_)
set_option maxHeartbeats 8000000 in
set_option maxRecDepth 100000 in
theorem hibernacleref12_text.calls (k : Nat) (A0_0 : Option Addr) (c0_0 : Nat) (l0_0 : List Int) (a0_1 : ByteArray) (a0_2 : Int) (a0_3 : Int) (r : ByteArray) (w : World) (hr0_0 : Kd.C (Kd.int .u32) w A0_0 l0_0.length l0_0) (hc0_0 : l0_0.length ≤ c0_0) (h : hibernacleref12_text.f k l0_0 a0_1 a0_2 a0_3 = some r) :
    Calls Try.prog 28 #[.agg #[.slice A0_0 l0_0.length c0_0, .string a0_1, .int .i64 a0_2, .int .u32 a0_3]] w fun e w' => e = .returned (.string r) ∧ Below w.heap.size w w' := by
  have hu25 := Try.underlying25
  have HR0_0 := Aside0.mk hr0_0
  have HC0_0 := Aside0.mk hc0_0
  clear hr0_0 hc0_0
  have HB := Aside0.mk (Below.refl w.heap.size w)
  have H : (hibernacleref12_text.l0 k (⟨#[]⟩ : ByteArray) (l0_0.length : Int) 0 l0_0 a0_1 a0_2 a0_3) = some r := h
  clear h
  have H' := Aside0.mk H
  clear H
  go_enter Try.func28, Try.ntmps28
  go_wp2_with (first | ((with_reducible refine gate_dst (N := 1) rfl ?_); refine box_event ?hg (N := 1) ?hd (cs := #[.slice A0_0 l0_0.length c0_0, .string a0_1, .int .i64 a0_2, .int .u32 a0_3]) (t := 25) ?hr ?_; (case hd => rfl); (case hg => rfl); (case hr => first | (go_simp; done) | (go_simp; rfl)); intro gb165 hg w2 hbox hb; have n0_ := Aside0.mk (below_step (by repeat (first | (with_reducible first | exact HB.out | apply below_alloc | apply pw_below_drewN | apply below_drew1) | exact HB.out)) hb); have n1_ := Aside0.mk (hbox); have n2_ := Aside0.mk ((by rw [hg]; exact (below_size (by repeat (first | (with_reducible first | exact HB.out | apply below_alloc | apply pw_below_drewN | apply below_drew1) | exact HB.out))) : w.heap.size ≤ gb165)); have n3_ := Aside0.mk ((by rw [hg]; exact (below_size (by repeat (first | (with_reducible first | exact HB.out | apply below_alloc | apply pw_below_drewN | apply below_drew1) | exact HB.out))) : w.heap.size ≤ gb165)); clear HB; have HB := n0_; have BK165 := n1_; have GW165 := n2_; have GE165 := n3_; clear n0_ n1_ n2_ n3_; clear hb hbox hg; have hcz3_0 : w2.cell? ⟨gb165, 0, none⟩ = some (.slice A0_0 l0_0.length c0_0) := (blk_cell BK165.out 0).trans rfl; have hcz3_1 : w2.cell? ⟨gb165, 1, none⟩ = some (.string a0_1) := (blk_cell BK165.out 1).trans rfl; have hcz3_2 : w2.cell? ⟨gb165, 2, none⟩ = some (.int .i64 a0_2) := (blk_cell BK165.out 2).trans rfl; have hcz3_3 : w2.cell? ⟨gb165, 3, none⟩ = some (.int .u32 a0_3) := (blk_cell BK165.out 3).trans rfl; have hfz3_0 := blk_frozen BK165.out 0; have hfz3_1 := blk_frozen BK165.out 1; have hfz3_2 := blk_frozen BK165.out 2; have hfz3_3 := blk_frozen BK165.out 3))
  go_loopg [3, 8] k (fun kq v3 v8 w' => ∃ (x3_1 : ByteArray) (x8_1 : Int), v3 = .string x3_1 ∧ v8 = .int .i64 x8_1 ∧ Aside0 (hibernacleref12_text.l0 kq x3_1 (l0_0.length : Int) x8_1 l0_0 a0_1 a0_2 a0_3 = some r) ∧ Aside0 (kq ≤ k) ∧ Aside0 (w'.heap[gb165]? = some (.cells #[(.slice A0_0 l0_0.length c0_0), .string a0_1, .int .i64 a0_2, .int .u32 a0_3] 25 (0, 0))) ∧ Aside0 (Below w.heap.size w w'))
  case atStart => exact ⟨((⟨#[]⟩ : ByteArray)), (0), (by first | rfl | (simp; done) | (simp [*]; done)), (by first | rfl | (simp; done) | (simp [*]; done)), H', ⟨Nat.le_refl _⟩, ⟨by (with_reducible repeat (first | refine blk_drewN ?_ _ | refine blk_drew ?_ | refine blk_alloc ?_ _)); exact BK165.out⟩, ⟨by repeat (first | (with_reducible first | exact HB.out | apply below_alloc | apply pw_below_drewN | apply below_drew1 | refine below_set ?_ GE165.out) | exact HB.out)⟩⟩
  case round =>
    clear H'
    try clear c2
    try clear p2
    try clear hcz3_0
    try clear hcz3_1
    try clear hcz3_2
    try clear hcz3_3
    try clear hfz3_0
    try clear hfz3_1
    try clear hfz3_2
    try clear hfz3_3
    obtain ⟨x3_1, x8_1, rfl, rfl, HA, HK1, BK165, HB⟩ := hrel
    cases gk with
    | zero => exact absurd HA.out (by simp [hibernacleref12_text.l0])
    | succ k1 =>
      have H := HA.out
      clear HA
      simp only [hibernacleref12_text.l0] at H
      by_cases c4 : x8_1 < (l0_0.length : Int)
      · rw [if_pos c4] at H
        have c4b0 : decide (x8_1 < (l0_0.length : Int)) = true := decide_eq_true c4
        clear c4
        by_cases c5 : 0 ≤ x8_1
        · rw [if_pos c5] at H
          have c5b0 : decide (0 ≤ x8_1) = true := decide_eq_true c5
          clear c5
          by_cases c6 : x8_1 < (l0_0.length : Int)
          · rw [if_pos c6] at H
            have c6b0 : decide (x8_1 < (l0_0.length : Int)) = true := decide_eq_true c6
            clear c6
            replace H := Option.bind_eq_some_iff.mp H
            obtain ⟨t167, A70, H⟩ := H
            replace H : (if x3_1.size + t167.size ≤ 9223372036854775807 then (hibernacleref12_text.l0 k1 (x3_1 ++ t167) (l0_0.length : Int) (wrap64 (x8_1 + 1)) l0_0 a0_1 a0_2 a0_3) else (none)) = some r := H
            have A7 := Aside0.mk A70
            clear A70
            by_cases c8 : x3_1.size + t167.size ≤ 9223372036854775807
            · rw [if_pos c8] at H
              have c8b0 := eq_true c8
              have c8b1 : decide (x3_1.size + t167.size ≤ 9223372036854775807) = true := decide_eq_true c8
              try have c8b2 : (9223372036854775807 < x3_1.size + t167.size) = False := eq_false (Nat.not_lt.2 c8)
              have H' := Aside0.mk H
              clear H
              have hcz9_0 : wr.cell? ⟨gb165, 0, none⟩ = some (.slice A0_0 l0_0.length c0_0) := (blk_cell BK165.out 0).trans rfl
              have hcz9_1 : wr.cell? ⟨gb165, 1, none⟩ = some (.string a0_1) := (blk_cell BK165.out 1).trans rfl
              have hcz9_2 : wr.cell? ⟨gb165, 2, none⟩ = some (.int .i64 a0_2) := (blk_cell BK165.out 2).trans rfl
              have hcz9_3 : wr.cell? ⟨gb165, 3, none⟩ = some (.int .u32 a0_3) := (blk_cell BK165.out 3).trans rfl
              have hfz9_0 := blk_frozen BK165.out 0
              have hfz9_1 := blk_frozen BK165.out 1
              have hfz9_2 := blk_frozen BK165.out 2
              have hfz9_3 := blk_frozen BK165.out 3
              have p166 : 0 ≤ (x8_1 : Int) := of_decide_eq_true (by first | (with_reducible assumption) | assumption)
              have q166 : x8_1 < (l0_0.length : Int) := of_decide_eq_true (by first | (with_reducible assumption) | assumption)
              obtain ⟨ad166, e166, hx166_0⟩ := Kd.at_int HR0_0.out x8_1 p166 q166
              cases e166
              replace hx166_0 := (HB.out.cell (World.block_lt_of_cell? w _ hx166_0)).trans hx166_0
              replace p166 := eq_true p166
              replace q166 := eq_true q166
              go_wp2_with (first | ((with_reducible refine gate_callee (f := 33) rfl ?_); refine goesL_ (some 18) rfl rfl Try.func33 (by kernel_rfl) rfl #[.int .u64 (IntKind.u64.wrap (rd l0_0 x8_1)), .int .i64 4] rfl (by (try simp only [List.map_toArray, List.map_cons, List.map_nil]); first | done | rfl | (simp only [List.length_drop, List.length_take]; rfl)) ?_; (with_reducible refine (hibernacleref01_Put.calls k1 (IntKind.u64.wrap (rd l0_0 x8_1)) 4 t167 _ A7.out).mono ?_); rintro e w10 ⟨rfl, hb⟩; refine ⟨_, rfl, ?_⟩; have n0_ := Aside0.mk (blk_below (g := gb165) (o := .cells #[.slice (some ad166) l0_0.length c0_0, .string a0_1, .int .i64 a0_2, .int .u32 a0_3] 25 (0, 0)) (by (with_reducible repeat (first | refine blk_drewN ?_ _ | refine blk_drew ?_ | refine blk_alloc ?_ _)); exact BK165.out) hb); have n1_ := Aside0.mk (below_step (by repeat (first | (with_reducible first | exact HB.out | apply below_alloc | apply pw_below_drewN | apply below_drew1 | refine below_set ?_ GE165.out) | exact HB.out)) hb); clear BK165; clear HB; have BK165 := n0_; have HB := n1_; clear n0_ n1_; (try clear hb); (try clear hb2); (try clear hk); (try clear hi)))
              go_roundg k1
              case measure => have := HK1.out; omega
              case rel => exact ⟨(x3_1 ++ t167), (wrap64 (x8_1 + 1)), (by first | rfl | (simp; done) | (simp [*]; done)), (by first | rfl | (simp; done) | (simp [*]; done)), H', ⟨by have := HK1.out; omega⟩, ⟨by (with_reducible repeat (first | refine blk_drewN ?_ _ | refine blk_drew ?_ | refine blk_alloc ?_ _)); exact BK165.out⟩, ⟨by repeat (first | (with_reducible first | exact HB.out | apply below_alloc | apply pw_below_drewN | apply below_drew1 | refine below_set ?_ GE165.out) | exact HB.out)⟩⟩
            · rw [if_neg c8] at H
              exact absurd H (by simp)
          · rw [if_neg c6] at H
            exact absurd H (by simp)
        · rw [if_neg c5] at H
          exact absurd H (by simp)
      · rw [if_neg c4] at H
        have c4b0 : decide (x8_1 < (l0_0.length : Int)) = false := decide_eq_false c4
        clear c4
        obtain rfl := Option.some.inj H
        go_wp2
        go_ret
        exact ⟨by first | rfl | (simp [errW_none, errW_some] <;> rfl) | (simp [*, errW_none, errW_some] <;> rfl), by repeat (first | (with_reducible first | exact HB.out | apply below_alloc | apply pw_below_drewN | apply below_drew1 | refine below_set ?_ GE165.out) | exact HB.out)⟩
end Go.Proofs.Ytgjhabeoaejcdaa.P
end
section
namespace Go.Proofs.Ytgjhabeoaejcdaa.P
section
abbrev zb1_Px20 : Array Bool := #[false, false, false, false, false, false, false, false, false, false, false, false, false, false, false, false, false, false, false, false, false, false]
abbrev zb2_Px20 : Array Bool := #[true, false, false, false, false, false, false, false, false, false, false, false, false, false, false, false, false, false, false, false, false, false]
abbrev zb3_Px20 : Array Bool := #[true, false, false, false, true, false, false, false, false, false, false, false, false, false, false, false, false, false, false, false, false, false]
abbrev zb4_Px20 : Array Bool := #[true, false, false, false, true, false, false, false, false, false, true, false, false, false, false, false, false, false, false, false, false, false]
abbrev zb5_Px20 : Array Bool := #[true, false, false, false, true, false, false, false, false, false, true, false, false, false, false, false, true, false, false, false, false, false]
abbrev zb6_Px20 : Array Bool := #[true, true, false, false, true, false, false, false, false, false, true, false, false, false, false, false, true, false, false, false, false, false]
abbrev zb7_Px20 : Array Bool := #[true, true, true, false, true, false, false, false, false, false, true, false, false, false, false, false, true, false, false, false, false, false]
abbrev zb8_Px20 : Array Bool := #[true, true, true, false, true, true, false, false, false, false, true, false, false, false, false, false, true, false, false, false, false, false]
abbrev zb9_Px20 : Array Bool := #[true, true, true, false, true, true, true, false, false, false, true, false, false, false, false, false, true, false, false, false, false, false]
abbrev zb10_Px20 : Array Bool := #[true, true, true, false, true, true, true, true, false, false, true, false, false, false, false, false, true, false, false, false, false, false]
abbrev zb11_Px20 : Array Bool := #[true, true, true, false, true, true, true, true, false, false, true, true, false, false, false, false, true, false, false, false, false, false]
abbrev zb12_Px20 : Array Bool := #[true, true, true, false, true, true, true, true, false, false, true, true, true, false, false, false, true, false, false, false, false, false]
abbrev zb13_Px20 : Array Bool := #[true, true, true, false, true, true, true, true, false, false, true, true, true, true, false, false, true, false, false, false, false, false]
abbrev zb14_Px20 : Array Bool := #[true, true, true, false, true, true, true, true, false, false, true, true, true, true, false, false, true, true, false, false, false, false]
abbrev zb15_Px20 : Array Bool := #[true, true, true, false, true, true, true, true, false, false, true, true, true, true, false, false, true, true, true, false, false, false]
abbrev zb16_Px20 : Array Bool := #[true, true, true, true, true, true, true, true, false, false, true, true, true, true, false, false, true, true, true, false, false, false]
abbrev zb17_Px20 : Array Bool := #[true, true, true, true, true, true, true, true, true, false, true, true, true, true, false, false, true, true, true, false, false, false]
abbrev zb18_Px20 : Array Bool := #[true, true, true, true, true, true, true, true, true, true, true, true, true, true, false, false, true, true, true, false, false, false]
abbrev zb19_Px20 : Array Bool := #[true, true, true, true, true, true, true, true, true, true, true, true, true, true, true, false, true, true, true, false, false, false]
abbrev zb20_Px20 : Array Bool := #[true, true, true, true, true, true, true, true, true, true, true, true, true, true, true, true, true, true, true, false, false, false]
abbrev zb21_Px20 : Array Bool := #[true, true, true, true, true, true, true, true, true, true, true, true, true, true, true, true, true, true, true, true, false, false]
abbrev zb22_Px20 : Array Bool := #[true, true, true, true, true, true, true, true, true, true, true, true, true, true, true, true, true, true, true, true, true, false]
abbrev zb23_Px20 : Array Bool := #[true, true, true, true, true, true, true, true, true, true, true, true, true, true, true, true, true, true, true, true, true, true]
open Go.RowKit Go.Proofs.YtgjhabeoaejcdaaW.PrintWords Go.Proofs.YtgjhabeoaejcdaaW.PrintLast Go.Proofs.YtgjhabeoaejcdaaW.PrintMore
attribute [local go_sem] max2_int min2_int max_two min_two max_three min_three max_four min_four
set_option linter.unusedVariables false
set_option linter.unusedSimpArgs false
def hibernacleref12_Bytes.f (k : Nat) (l0_0 : List Int) (a0_1 : ByteArray) (a0_2 : Int) (a0_3 : Int) : Option (ByteArray × Int) := (hibernacleref12_Check.f k l0_0 a0_1 a0_2 a0_3).bind fun t217 => (if t217 = 0 then ((hibernacleref01_Put.f k (IntKind.u64.wrap (a0_3)) 4).bind fun t218 => ((hibernacleref01_Put.f k (IntKind.u64.wrap ((l0_0.length : Int))) 2).bind fun t219 => (if t218.size + t219.size ≤ 9223372036854775807 then ((hibernacleref01_Put.f k (IntKind.u64.wrap ((a0_1.size : Int))) 2).bind fun t220 => (if (t218 ++ t219).size + t220.size ≤ 9223372036854775807 then ((hibernacleref01_Put.f k (IntKind.u64.wrap (a0_2)) 2).bind fun t221 => (if ((t218 ++ t219) ++ t220).size + t221.size ≤ 9223372036854775807 then (if 4 + (((t218 ++ t219) ++ t220) ++ t221).size ≤ 9223372036854775807 then ((hibernacleref12_text.f k l0_0 a0_1 a0_2 a0_3).bind fun t222 => (if ((⟨#[104, 105, 98, 120]⟩ : ByteArray) ++ (((t218 ++ t219) ++ t220) ++ t221)).size + t222.size ≤ 9223372036854775807 then (if (((⟨#[104, 105, 98, 120]⟩ : ByteArray) ++ (((t218 ++ t219) ++ t220) ++ t221)) ++ t222).size + a0_1.size ≤ 9223372036854775807 then (some ((((⟨#[104, 105, 98, 120]⟩ : ByteArray) ++ (((t218 ++ t219) ++ t220) ++ t221)) ++ t222) ++ a0_1, 0)) else (none)) else (none))) else (none)) else (none))) else (none))) else (none)))) else (some ((⟨#[]⟩ : ByteArray), 1)))
theorem hibernacleref12_Bytes.mono : ∀ a0 a1 a2 a3 k, LeO (hibernacleref12_Bytes.f k a0 a1 a2 a3) (hibernacleref12_Bytes.f (k + 1) a0 a1 a2 a3) := by
  intro a0 a1 a2 a3 k
  unfold hibernacleref12_Bytes.f
  repeat' first
      | (with_reducible exact hibernacleref01_Put.mono _ _ _)
      | (with_reducible exact hibernacleref12_Check.mono _ _ _ _ _)
      | (with_reducible exact hibernacleref12_text.mono _ _ _ _ _)
      | (with_reducible exact LeO.refl _)
      | (with_reducible exact LeO.none _)
      | (with_reducible refine LeO.ite ?_ ?_)
      | (with_reducible refine LeO.bind ?_ (fun _ => ?_))
      | exact hibernacleref01_Put.mono _ _ _
      | exact hibernacleref12_Check.mono _ _ _ _ _
      | exact hibernacleref12_text.mono _ _ _ _ _
      | exact LeO.none _
      | refine LeO.ite ?_ ?_
      | refine LeO.bind ?_ (fun _ => ?_)
def hibernacleref12_Bytes.T3 : Bool × List (List Nat × List Nat) := (true, [([], []), ([0], [0]), ([1], [1]), ([2], [2]), ([], []), ([4], [4]), ([5], [5]), ([6], [6]), ([7, 3], [7]), ([3, 8], [3, 8]), ([], []), ([10], [10]), ([11], [11]), ([12], [12]), ([13, 8], [13]), ([9, 14], [9, 14]), ([], []), ([16], [16]), ([17], [17]), ([18, 14], [18]), ([15, 19], [15, 19]), ([20, 19, 0, 1, 2, 3, 4, 5, 6, 7, 8, 9, 10, 11, 12, 13, 14, 15, 16, 17, 18, 19, 20], [20])])
def hibernacleref12_Bytes.B3 : List Nat := [0, 1, 3, 7, 0, 16, 48, 112, 255, 511, 0, 1024, 3072, 7168, 15871, 32767, 0, 65536, 196608, 491007, 1048575, 2097151]
theorem hibernacleref12_Bytes.tab3 : rtab .any (opsOf Try.f16 3) = hibernacleref12_Bytes.T3 := by kernel_rfl
theorem hibernacleref12_Bytes.bits3 : waitsOk hibernacleref12_Bytes.T3.2 hibernacleref12_Bytes.B3 = true := by kernel_rfl
def hibernacleref12_Bytes.T4 : Bool × List (List Nat × List Nat) := (true, [([], []), ([0], [0]), ([], []), ([2], [2]), ([1, 3], [1, 3]), ([], []), ([5], [5]), ([4, 6], [4, 6]), ([7, 3, 0, 1, 2, 3, 4, 5, 6, 7], [7]), ([8, 0, 1, 2, 3, 4, 5, 6, 7, 8], [])])
def hibernacleref12_Bytes.B4 : List Nat := [0, 1, 0, 4, 15, 0, 32, 127, 255, 511]
theorem hibernacleref12_Bytes.tab4 : rtab .any (opsOf Try.f16 4) = hibernacleref12_Bytes.T4 := by kernel_rfl
theorem hibernacleref12_Bytes.bits4 : waitsOk hibernacleref12_Bytes.T4.2 hibernacleref12_Bytes.B4 = true := by kernel_rfl
set_option maxHeartbeats 8000000 in
set_option maxRecDepth 100000 in
theorem hibernacleref12_Bytes.calls (k : Nat) (A0_0 : Option Addr) (c0_0 : Nat) (l0_0 : List Int) (a0_1 : ByteArray) (a0_2 : Int) (a0_3 : Int) (r1 : ByteArray) (r2 : Int) (w : World) (hr0_0 : Kd.C (Kd.int .u32) w A0_0 l0_0.length l0_0) (hc0_0 : l0_0.length ≤ c0_0) (h : hibernacleref12_Bytes.f k l0_0 a0_1 a0_2 a0_3 = some (r1, r2)) :
    Calls Try.prog 16 #[.agg #[.slice A0_0 l0_0.length c0_0, .string a0_1, .int .i64 a0_2, .int .u32 a0_3]] w fun e w' => e = .returned (.tuple #[.string r1, .int .i64 r2]) ∧ Below w.heap.size w w' := by
  have hu25 := Try.underlying25
  have HR0_0 := Aside0.mk hr0_0
  have HC0_0 := Aside0.mk hc0_0
  clear hr0_0 hc0_0
  have HB := Aside0.mk (Below.refl w.heap.size w)
  have H : ((hibernacleref12_Check.f k l0_0 a0_1 a0_2 a0_3).bind fun t217 => (if t217 = 0 then ((hibernacleref01_Put.f k (IntKind.u64.wrap (a0_3)) 4).bind fun t218 => ((hibernacleref01_Put.f k (IntKind.u64.wrap ((l0_0.length : Int))) 2).bind fun t219 => (if t218.size + t219.size ≤ 9223372036854775807 then ((hibernacleref01_Put.f k (IntKind.u64.wrap ((a0_1.size : Int))) 2).bind fun t220 => (if (t218 ++ t219).size + t220.size ≤ 9223372036854775807 then ((hibernacleref01_Put.f k (IntKind.u64.wrap (a0_2)) 2).bind fun t221 => (if ((t218 ++ t219) ++ t220).size + t221.size ≤ 9223372036854775807 then (if 4 + (((t218 ++ t219) ++ t220) ++ t221).size ≤ 9223372036854775807 then ((hibernacleref12_text.f k l0_0 a0_1 a0_2 a0_3).bind fun t222 => (if ((⟨#[104, 105, 98, 120]⟩ : ByteArray) ++ (((t218 ++ t219) ++ t220) ++ t221)).size + t222.size ≤ 9223372036854775807 then (if (((⟨#[104, 105, 98, 120]⟩ : ByteArray) ++ (((t218 ++ t219) ++ t220) ++ t221)) ++ t222).size + a0_1.size ≤ 9223372036854775807 then (some ((((⟨#[104, 105, 98, 120]⟩ : ByteArray) ++ (((t218 ++ t219) ++ t220) ++ t221)) ++ t222) ++ a0_1, 0)) else (none)) else (none))) else (none)) else (none))) else (none))) else (none)))) else (some ((⟨#[]⟩ : ByteArray), 1)))) = some (r1, r2) := h
  clear h
  replace H := Option.bind_eq_some_iff.mp H
  obtain ⟨t217, A20, H⟩ := H
  replace H : (if t217 = 0 then ((hibernacleref01_Put.f k (IntKind.u64.wrap (a0_3)) 4).bind fun t218 => ((hibernacleref01_Put.f k (IntKind.u64.wrap ((l0_0.length : Int))) 2).bind fun t219 => (if t218.size + t219.size ≤ 9223372036854775807 then ((hibernacleref01_Put.f k (IntKind.u64.wrap ((a0_1.size : Int))) 2).bind fun t220 => (if (t218 ++ t219).size + t220.size ≤ 9223372036854775807 then ((hibernacleref01_Put.f k (IntKind.u64.wrap (a0_2)) 2).bind fun t221 => (if ((t218 ++ t219) ++ t220).size + t221.size ≤ 9223372036854775807 then (if 4 + (((t218 ++ t219) ++ t220) ++ t221).size ≤ 9223372036854775807 then ((hibernacleref12_text.f k l0_0 a0_1 a0_2 a0_3).bind fun t222 => (if ((⟨#[104, 105, 98, 120]⟩ : ByteArray) ++ (((t218 ++ t219) ++ t220) ++ t221)).size + t222.size ≤ 9223372036854775807 then (if (((⟨#[104, 105, 98, 120]⟩ : ByteArray) ++ (((t218 ++ t219) ++ t220) ++ t221)) ++ t222).size + a0_1.size ≤ 9223372036854775807 then (some ((((⟨#[104, 105, 98, 120]⟩ : ByteArray) ++ (((t218 ++ t219) ++ t220) ++ t221)) ++ t222) ++ a0_1, 0)) else (none)) else (none))) else (none)) else (none))) else (none))) else (none)))) else (some ((⟨#[]⟩ : ByteArray), 1))) = some (r1, r2) := H
  have A2 := Aside0.mk A20
  clear A20
  by_cases c3 : t217 = 0
  · rw [if_pos c3] at H
    have c3b0 : (t217 == 0) = true := beq_iff_eq.mpr c3
    have c3b1 : (t217 != 0) = false := bne_eq_false_iff_eq.mpr c3
    clear c3
    replace H := Option.bind_eq_some_iff.mp H
    obtain ⟨t218, A40, H⟩ := H
    replace H : ((hibernacleref01_Put.f k (IntKind.u64.wrap ((l0_0.length : Int))) 2).bind fun t219 => (if t218.size + t219.size ≤ 9223372036854775807 then ((hibernacleref01_Put.f k (IntKind.u64.wrap ((a0_1.size : Int))) 2).bind fun t220 => (if (t218 ++ t219).size + t220.size ≤ 9223372036854775807 then ((hibernacleref01_Put.f k (IntKind.u64.wrap (a0_2)) 2).bind fun t221 => (if ((t218 ++ t219) ++ t220).size + t221.size ≤ 9223372036854775807 then (if 4 + (((t218 ++ t219) ++ t220) ++ t221).size ≤ 9223372036854775807 then ((hibernacleref12_text.f k l0_0 a0_1 a0_2 a0_3).bind fun t222 => (if ((⟨#[104, 105, 98, 120]⟩ : ByteArray) ++ (((t218 ++ t219) ++ t220) ++ t221)).size + t222.size ≤ 9223372036854775807 then (if (((⟨#[104, 105, 98, 120]⟩ : ByteArray) ++ (((t218 ++ t219) ++ t220) ++ t221)) ++ t222).size + a0_1.size ≤ 9223372036854775807 then (some ((((⟨#[104, 105, 98, 120]⟩ : ByteArray) ++ (((t218 ++ t219) ++ t220) ++ t221)) ++ t222) ++ a0_1, 0)) else (none)) else (none))) else (none)) else (none))) else (none))) else (none))) = some (r1, r2) := H
    have A4 := Aside0.mk A40
    clear A40
    replace H := Option.bind_eq_some_iff.mp H
    obtain ⟨t219, A50, H⟩ := H
    replace H : (if t218.size + t219.size ≤ 9223372036854775807 then ((hibernacleref01_Put.f k (IntKind.u64.wrap ((a0_1.size : Int))) 2).bind fun t220 => (if (t218 ++ t219).size + t220.size ≤ 9223372036854775807 then ((hibernacleref01_Put.f k (IntKind.u64.wrap (a0_2)) 2).bind fun t221 => (if ((t218 ++ t219) ++ t220).size + t221.size ≤ 9223372036854775807 then (if 4 + (((t218 ++ t219) ++ t220) ++ t221).size ≤ 9223372036854775807 then ((hibernacleref12_text.f k l0_0 a0_1 a0_2 a0_3).bind fun t222 => (if ((⟨#[104, 105, 98, 120]⟩ : ByteArray) ++ (((t218 ++ t219) ++ t220) ++ t221)).size + t222.size ≤ 9223372036854775807 then (if (((⟨#[104, 105, 98, 120]⟩ : ByteArray) ++ (((t218 ++ t219) ++ t220) ++ t221)) ++ t222).size + a0_1.size ≤ 9223372036854775807 then (some ((((⟨#[104, 105, 98, 120]⟩ : ByteArray) ++ (((t218 ++ t219) ++ t220) ++ t221)) ++ t222) ++ a0_1, 0)) else (none)) else (none))) else (none)) else (none))) else (none))) else (none)) = some (r1, r2) := H
    have A5 := Aside0.mk A50
    clear A50
    by_cases c6 : t218.size + t219.size ≤ 9223372036854775807
    · rw [if_pos c6] at H
      have c6b0 := eq_true c6
      have c6b1 : decide (t218.size + t219.size ≤ 9223372036854775807) = true := decide_eq_true c6
      try have c6b2 : (9223372036854775807 < t218.size + t219.size) = False := eq_false (Nat.not_lt.2 c6)
      replace H := Option.bind_eq_some_iff.mp H
      obtain ⟨t220, A70, H⟩ := H
      replace H : (if (t218 ++ t219).size + t220.size ≤ 9223372036854775807 then ((hibernacleref01_Put.f k (IntKind.u64.wrap (a0_2)) 2).bind fun t221 => (if ((t218 ++ t219) ++ t220).size + t221.size ≤ 9223372036854775807 then (if 4 + (((t218 ++ t219) ++ t220) ++ t221).size ≤ 9223372036854775807 then ((hibernacleref12_text.f k l0_0 a0_1 a0_2 a0_3).bind fun t222 => (if ((⟨#[104, 105, 98, 120]⟩ : ByteArray) ++ (((t218 ++ t219) ++ t220) ++ t221)).size + t222.size ≤ 9223372036854775807 then (if (((⟨#[104, 105, 98, 120]⟩ : ByteArray) ++ (((t218 ++ t219) ++ t220) ++ t221)) ++ t222).size + a0_1.size ≤ 9223372036854775807 then (some ((((⟨#[104, 105, 98, 120]⟩ : ByteArray) ++ (((t218 ++ t219) ++ t220) ++ t221)) ++ t222) ++ a0_1, 0)) else (none)) else (none))) else (none)) else (none))) else (none)) = some (r1, r2) := H
      have A7 := Aside0.mk A70
      clear A70
      by_cases c8 : (t218 ++ t219).size + t220.size ≤ 9223372036854775807
      · rw [if_pos c8] at H
        have c8b0 := eq_true c8
        have c8b1 : decide ((t218 ++ t219).size + t220.size ≤ 9223372036854775807) = true := decide_eq_true c8
        try have c8b2 : (9223372036854775807 < (t218 ++ t219).size + t220.size) = False := eq_false (Nat.not_lt.2 c8)
        try (have c8b5 := c8b0; have c8b6 := c8b2; simp only [ByteArray.size_append, ByteArray.size_extract, Int.toNat_natCast, Nat.min_self, size_lit_, List.size_toArray, List.length_cons, List.length_nil, Nat.reduceAdd] at c8b5 c8b6)
        replace H := Option.bind_eq_some_iff.mp H
        obtain ⟨t221, A90, H⟩ := H
        replace H : (if ((t218 ++ t219) ++ t220).size + t221.size ≤ 9223372036854775807 then (if 4 + (((t218 ++ t219) ++ t220) ++ t221).size ≤ 9223372036854775807 then ((hibernacleref12_text.f k l0_0 a0_1 a0_2 a0_3).bind fun t222 => (if ((⟨#[104, 105, 98, 120]⟩ : ByteArray) ++ (((t218 ++ t219) ++ t220) ++ t221)).size + t222.size ≤ 9223372036854775807 then (if (((⟨#[104, 105, 98, 120]⟩ : ByteArray) ++ (((t218 ++ t219) ++ t220) ++ t221)) ++ t222).size + a0_1.size ≤ 9223372036854775807 then (some ((((⟨#[104, 105, 98, 120]⟩ : ByteArray) ++ (((t218 ++ t219) ++ t220) ++ t221)) ++ t222) ++ a0_1, 0)) else (none)) else (none))) else (none)) else (none)) = some (r1, r2) := H
        have A9 := Aside0.mk A90
        clear A90
        by_cases c10 : ((t218 ++ t219) ++ t220).size + t221.size ≤ 9223372036854775807
        · rw [if_pos c10] at H
          have c10b0 := eq_true c10
          have c10b1 : decide (((t218 ++ t219) ++ t220).size + t221.size ≤ 9223372036854775807) = true := decide_eq_true c10
          try have c10b2 : (9223372036854775807 < ((t218 ++ t219) ++ t220).size + t221.size) = False := eq_false (Nat.not_lt.2 c10)
          try (have c10b5 := c10b0; have c10b6 := c10b2; simp only [ByteArray.size_append, ByteArray.size_extract, Int.toNat_natCast, Nat.min_self, size_lit_, List.size_toArray, List.length_cons, List.length_nil, Nat.reduceAdd] at c10b5 c10b6)
          by_cases c11 : 4 + (((t218 ++ t219) ++ t220) ++ t221).size ≤ 9223372036854775807
          · rw [if_pos c11] at H
            have c11b0 := eq_true c11
            have c11b1 : decide (4 + (((t218 ++ t219) ++ t220) ++ t221).size ≤ 9223372036854775807) = true := decide_eq_true c11
            try have c11b2 : (9223372036854775807 < 4 + (((t218 ++ t219) ++ t220) ++ t221).size) = False := eq_false (Nat.not_lt.2 c11)
            try (have c11b5 := c11b0; have c11b6 := c11b2; simp only [ByteArray.size_append, ByteArray.size_extract, Int.toNat_natCast, Nat.min_self, size_lit_, List.size_toArray, List.length_cons, List.length_nil, Nat.reduceAdd] at c11b5 c11b6)
            replace H := Option.bind_eq_some_iff.mp H
            obtain ⟨t222, A120, H⟩ := H
            replace H : (if ((⟨#[104, 105, 98, 120]⟩ : ByteArray) ++ (((t218 ++ t219) ++ t220) ++ t221)).size + t222.size ≤ 9223372036854775807 then (if (((⟨#[104, 105, 98, 120]⟩ : ByteArray) ++ (((t218 ++ t219) ++ t220) ++ t221)) ++ t222).size + a0_1.size ≤ 9223372036854775807 then (some ((((⟨#[104, 105, 98, 120]⟩ : ByteArray) ++ (((t218 ++ t219) ++ t220) ++ t221)) ++ t222) ++ a0_1, 0)) else (none)) else (none)) = some (r1, r2) := H
            have A12 := Aside0.mk A120
            clear A120
            by_cases c13 : ((⟨#[104, 105, 98, 120]⟩ : ByteArray) ++ (((t218 ++ t219) ++ t220) ++ t221)).size + t222.size ≤ 9223372036854775807
            · rw [if_pos c13] at H
              have c13b0 := eq_true c13
              have c13b1 : decide (((⟨#[104, 105, 98, 120]⟩ : ByteArray) ++ (((t218 ++ t219) ++ t220) ++ t221)).size + t222.size ≤ 9223372036854775807) = true := decide_eq_true c13
              try have c13b2 : (9223372036854775807 < ((⟨#[104, 105, 98, 120]⟩ : ByteArray) ++ (((t218 ++ t219) ++ t220) ++ t221)).size + t222.size) = False := eq_false (Nat.not_lt.2 c13)
              try (have c13b5 := c13b0; have c13b6 := c13b2; simp only [ByteArray.size_append, ByteArray.size_extract, Int.toNat_natCast, Nat.min_self, size_lit_, List.size_toArray, List.length_cons, List.length_nil, Nat.reduceAdd] at c13b5 c13b6)
              by_cases c14 : (((⟨#[104, 105, 98, 120]⟩ : ByteArray) ++ (((t218 ++ t219) ++ t220) ++ t221)) ++ t222).size + a0_1.size ≤ 9223372036854775807
              · rw [if_pos c14] at H
                have c14b0 := eq_true c14
                have c14b1 : decide ((((⟨#[104, 105, 98, 120]⟩ : ByteArray) ++ (((t218 ++ t219) ++ t220) ++ t221)) ++ t222).size + a0_1.size ≤ 9223372036854775807) = true := decide_eq_true c14
                try have c14b2 : (9223372036854775807 < (((⟨#[104, 105, 98, 120]⟩ : ByteArray) ++ (((t218 ++ t219) ++ t220) ++ t221)) ++ t222).size + a0_1.size) = False := eq_false (Nat.not_lt.2 c14)
                try (have c14b5 := c14b0; have c14b6 := c14b2; simp only [ByteArray.size_append, ByteArray.size_extract, Int.toNat_natCast, Nat.min_self, size_lit_, List.size_toArray, List.length_cons, List.length_nil, Nat.reduceAdd] at c14b5 c14b6)
                simp only [Option.some.injEq, Prod.mk.injEq] at H
                obtain ⟨rfl, rfl⟩ := H
                go_enter Try.func16, Try.ntmps16
                try go_wp2_with (first | ((with_reducible refine gate_dst (N := 1) rfl ?_); refine box_event ?hg (N := 1) ?hd (cs := #[.slice A0_0 l0_0.length c0_0, .string a0_1, .int .i64 a0_2, .int .u32 a0_3]) (t := 25) ?hr ?_; (case hd => rfl); (case hg => rfl); (case hr => first | (go_simp; done) | (go_simp; rfl)); intro gb216 hg w15 hbox hb; have n0_ := Aside0.mk (below_step (by repeat (first | (with_reducible first | exact HB.out | apply below_alloc | apply pw_below_drewN | apply below_drew1) | exact HB.out)) hb); have n1_ := Aside0.mk (hbox); have n2_ := Aside0.mk ((by rw [hg]; exact (below_size (by repeat (first | (with_reducible first | exact HB.out | apply below_alloc | apply pw_below_drewN | apply below_drew1) | exact HB.out))) : w.heap.size ≤ gb216)); have n3_ := Aside0.mk ((by rw [hg]; exact (below_size (by repeat (first | (with_reducible first | exact HB.out | apply below_alloc | apply pw_below_drewN | apply below_drew1) | exact HB.out))) : w.heap.size ≤ gb216)); clear HB; have HB := n0_; have BK216 := n1_; have GW216 := n2_; have GE216 := n3_; clear n0_ n1_ n2_ n3_; clear hb hbox hg; have hcz16_0 : w15.cell? ⟨gb216, 0, none⟩ = some (.slice A0_0 l0_0.length c0_0) := (blk_cell BK216.out 0).trans rfl; have hcz16_1 : w15.cell? ⟨gb216, 1, none⟩ = some (.string a0_1) := (blk_cell BK216.out 1).trans rfl; have hcz16_2 : w15.cell? ⟨gb216, 2, none⟩ = some (.int .i64 a0_2) := (blk_cell BK216.out 2).trans rfl; have hcz16_3 : w15.cell? ⟨gb216, 3, none⟩ = some (.int .u32 a0_3) := (blk_cell BK216.out 3).trans rfl; have hfz16_0 := blk_frozen BK216.out 0; have hfz16_1 := blk_frozen BK216.out 1; have hfz16_2 := blk_frozen BK216.out 2; have hfz16_3 := blk_frozen BK216.out 3) | ((with_reducible refine gate_callee (f := 13) rfl ?_); refine goesL_ (some 6) rfl rfl Try.func13 (by kernel_rfl) rfl #[.agg #[.slice A0_0 l0_0.length c0_0, .string a0_1, .int .i64 a0_2, .int .u32 a0_3]] rfl (by (try simp only [List.map_toArray, List.map_cons, List.map_nil]); first | done | rfl | (simp only [List.length_drop, List.length_take]; rfl)) ?_; (with_reducible refine (hibernacleref12_Check.calls k _ _ l0_0 a0_1 a0_2 a0_3 t217 _ ?side1 ?side2 A2.out).mono ?_); (case side1 => repeat (first | exact (Kd.C_below HR0_0.out HB.out) | (with_reducible refine Kd.C_alloc ?_ _) | (with_reducible refine Kd.C_drewN ?_ _) | (with_reducible refine Kd.C_drew ?_))); (case side2 => exact HC0_0.out); rintro e w17 ⟨rfl, hb⟩; refine ⟨_, rfl, ?_⟩; have n0_ := Aside0.mk (blk_below (g := gb216) (o := .cells #[.slice A0_0 l0_0.length c0_0, .string a0_1, .int .i64 a0_2, .int .u32 a0_3] 25 (0, 0)) (by (with_reducible repeat (first | refine blk_drewN ?_ _ | refine blk_drew ?_ | refine blk_alloc ?_ _)); exact BK216.out) hb); have n1_ := Aside0.mk (below_step (by repeat (first | (with_reducible first | exact HB.out | apply below_alloc | apply pw_below_drewN | apply below_drew1 | refine below_set ?_ GE216.out) | exact HB.out)) hb); clear BK216; clear HB; have BK216 := n0_; have HB := n1_; clear n0_ n1_; (try clear hb); (try clear hb2); (try clear hk); (try clear hi)))
                have n0_ := Aside0.mk (blk_drew BK216.out)
                have n1_ := Aside0.mk (below_drew1 HB.out)
                clear BK216
                clear HB
                have BK216 := n0_
                have HB := n1_
                clear n0_ n1_
                refine start_ (n := 22) (S := fun w' => w'.cell? ⟨gb216, 0, none⟩ = some (.slice A0_0 l0_0.length c0_0) ∧ w'.cell? ⟨gb216, 1, none⟩ = some (.string a0_1) ∧ w'.cell? ⟨gb216, 2, none⟩ = some (.int .i64 a0_2) ∧ w'.cell? ⟨gb216, 3, none⟩ = some (.int .u32 a0_3)) (ds := []) zb1_Px20 (by kernel_rfl) rfl rfl ⟨(blk_cell BK216.out 0).trans rfl, (blk_cell BK216.out 1).trans rfl, (blk_cell BK216.out 2).trans rfl, (blk_cell BK216.out 3).trans rfl⟩ (fun hHeld => ?_); refine with_tabW hibernacleref12_Bytes.tab3 hibernacleref12_Bytes.bits3 (fun HT_ HW_ => ?_)
                generalize w17.drew = w18 at BK216 HB hHeld ⊢
                refine pure_ (i := 0) (N := some 8) (v := ?_) (a' := ?_) zb2_Px20 rfl rfl (any_of HT_.out (by kernel_rfl)) (fun _ _ _ h => h) (Or.inl ⟨by rfl, ?_⟩) ?_ ?_
                rotate_left
                · intro w'
                  go_simp
                  with_reducible rfl
                rotate_left
                · simp only [Act.put, List.setIfInBounds_toArray, List.set_cons_zero, List.set_cons_succ, i64_w, i32_w]
                  rfl
                refine pure_ (i := 4) (N := some 12) (v := ?_) (a' := ?_) zb3_Px20 rfl rfl (any_of HT_.out (by kernel_rfl)) (fun _ _ _ h => h) (Or.inl ⟨by rfl, ?_⟩) ?_ ?_
                rotate_left
                · intro w'
                  go_simp
                  with_reducible rfl
                rotate_left
                · simp only [Act.put, List.setIfInBounds_toArray, List.set_cons_zero, List.set_cons_succ, i64_w, i32_w]
                  rfl
                refine pure_ (i := 10) (N := some 18) (v := ?_) (a' := ?_) zb4_Px20 rfl rfl (any_of HT_.out (by kernel_rfl)) (fun _ _ _ h => h) (Or.inl ⟨by rfl, ?_⟩) ?_ ?_
                rotate_left
                · intro w'
                  go_simp
                  with_reducible rfl
                rotate_left
                · simp only [Act.put, List.setIfInBounds_toArray, List.set_cons_zero, List.set_cons_succ, i64_w, i32_w]
                  rfl
                refine pure_ (i := 16) (N := some 24) (v := ?_) (a' := ?_) zb5_Px20 rfl rfl (any_of HT_.out (by kernel_rfl)) (fun _ _ _ h => h) (Or.inl ⟨by rfl, ?_⟩) ?_ ?_
                rotate_left
                · intro w'
                  go_simp
                  with_reducible rfl
                rotate_left
                · simp only [Act.put, List.setIfInBounds_toArray, List.set_cons_zero, List.set_cons_succ, i64_w, i32_w]
                  rfl
                refine take_ (i := 1) (N := some 9) (v := ?_) (a' := ?_) zb6_Px20 rfl rfl (take_ofW HT_.out HW_.out (by kernel_rfl)) (fun _ _ _ h => h) (Or.inl ⟨by rfl, ?_⟩) hHeld ?_ ?_
                rotate_left
                · rintro w' ⟨s0, s1, s2, s3⟩
                  go_simp
                  with_reducible rfl
                rotate_left
                · simp only [Act.put, List.setIfInBounds_toArray, List.set_cons_zero, List.set_cons_succ, i64_w, i32_w]
                  rfl
                refine pure_ (i := 2) (N := some 10) (v := ?_) (a' := ?_) zb7_Px20 rfl rfl (any_of HT_.out (by kernel_rfl)) (fun _ _ _ h => h) (Or.inl ⟨by rfl, ?_⟩) ?_ ?_
                rotate_left
                · intro w'
                  go_simp
                  with_reducible rfl
                rotate_left
                · simp only [Act.put, List.setIfInBounds_toArray, List.set_cons_zero, List.set_cons_succ, i64_w, i32_w]
                  rfl
                refine take_ (i := 5) (N := some 13) (v := ?_) (a' := ?_) zb8_Px20 rfl rfl (take_ofW HT_.out HW_.out (by kernel_rfl)) (fun _ _ _ h => h) (Or.inl ⟨by rfl, ?_⟩) hHeld ?_ ?_
                rotate_left
                · rintro w' ⟨s0, s1, s2, s3⟩
                  go_simp
                  with_reducible rfl
                rotate_left
                · simp only [Act.put, List.setIfInBounds_toArray, List.set_cons_zero, List.set_cons_succ, i64_w, i32_w]
                  rfl
                refine pure_ (i := 6) (N := some 14) (v := ?_) (a' := ?_) zb9_Px20 rfl rfl (any_of HT_.out (by kernel_rfl)) (fun _ _ _ h => h) (Or.inl ⟨by rfl, ?_⟩) ?_ ?_
                rotate_left
                · intro w'
                  go_simp
                  with_reducible rfl
                rotate_left
                · simp only [Act.put, List.setIfInBounds_toArray, List.set_cons_zero, List.set_cons_succ, i64_w, i32_w]
                  rfl
                refine pure_ (i := 7) (N := some 15) (v := ?_) (a' := ?_) zb10_Px20 rfl rfl (any_of HT_.out (by kernel_rfl)) (fun _ _ _ h => h) (Or.inl ⟨by rfl, ?_⟩) ?_ ?_
                rotate_left
                · intro w'
                  go_simp
                  with_reducible rfl
                rotate_left
                · simp only [Act.put, List.setIfInBounds_toArray, List.set_cons_zero, List.set_cons_succ, i64_w, i32_w]
                  rfl
                refine take_ (i := 11) (N := some 19) (v := ?_) (a' := ?_) zb11_Px20 rfl rfl (take_ofW HT_.out HW_.out (by kernel_rfl)) (fun _ _ _ h => h) (Or.inl ⟨by rfl, ?_⟩) hHeld ?_ ?_
                rotate_left
                · rintro w' ⟨s0, s1, s2, s3⟩
                  go_simp
                  with_reducible rfl
                rotate_left
                · simp only [Act.put, List.setIfInBounds_toArray, List.set_cons_zero, List.set_cons_succ, i64_w, i32_w]
                  rfl
                refine pure_ (i := 12) (N := some 20) (v := ?_) (a' := ?_) zb12_Px20 rfl rfl (any_of HT_.out (by kernel_rfl)) (fun _ _ _ h => h) (Or.inl ⟨by rfl, ?_⟩) ?_ ?_
                rotate_left
                · intro w'
                  go_simp
                  with_reducible rfl
                rotate_left
                · simp only [Act.put, List.setIfInBounds_toArray, List.set_cons_zero, List.set_cons_succ, i64_w, i32_w]
                  rfl
                refine pure_ (i := 13) (N := some 21) (v := ?_) (a' := ?_) zb13_Px20 rfl rfl (any_of HT_.out (by kernel_rfl)) (fun _ _ _ h => h) (Or.inl ⟨by rfl, ?_⟩) ?_ ?_
                rotate_left
                · intro w'
                  go_simp
                  with_reducible rfl
                rotate_left
                · simp only [Act.put, List.setIfInBounds_toArray, List.set_cons_zero, List.set_cons_succ, i64_w, i32_w]
                  rfl
                refine take_ (i := 17) (N := some 25) (v := ?_) (a' := ?_) zb14_Px20 rfl rfl (take_ofW HT_.out HW_.out (by kernel_rfl)) (fun _ _ _ h => h) (Or.inl ⟨by rfl, ?_⟩) hHeld ?_ ?_
                rotate_left
                · rintro w' ⟨s0, s1, s2, s3⟩
                  go_simp
                  with_reducible rfl
                rotate_left
                · simp only [Act.put, List.setIfInBounds_toArray, List.set_cons_zero, List.set_cons_succ, i64_w, i32_w]
                  rfl
                refine pure_ (i := 18) (N := some 26) (v := ?_) (a' := ?_) zb15_Px20 rfl rfl (any_of HT_.out (by kernel_rfl)) (fun _ _ _ h => h) (Or.inl ⟨by rfl, ?_⟩) ?_ ?_
                rotate_left
                · intro w'
                  go_simp
                  with_reducible rfl
                rotate_left
                · simp only [Act.put, List.setIfInBounds_toArray, List.set_cons_zero, List.set_cons_succ, i64_w, i32_w]
                  rfl
                refine one_ (i := 3) (N := some 11) zb16_Px20 rfl rfl (one_of HT_.out (by kernel_rfl)) (by decide) (fun K hK => ?_)
                refine goes_ Try.func33 (by kernel_rfl) rfl #[.int .u64 (IntKind.u64.wrap (a0_3)), .int .i64 4] (by rfl) rfl rfl (by (try simp only [List.map_toArray, List.map_cons, List.map_nil]); first | done | rfl | (simp only [List.length_drop, List.length_take]; rfl)) ?_
                with_reducible refine (hibernacleref01_Put.calls k (IntKind.u64.wrap (a0_3)) 4 t218 _ A4.out).mono ?_
                rintro e w19 ⟨rfl, hb⟩
                refine ⟨_, rfl, ?_⟩
                have n0_ := Aside0.mk (blk_below (g := gb216) (o := .cells #[.slice A0_0 l0_0.length c0_0, .string a0_1, .int .i64 a0_2, .int .u32 a0_3] 25 (0, 0)) (by (with_reducible repeat (first | refine blk_drewN ?_ _ | refine blk_drew ?_ | refine blk_alloc ?_ _)); exact BK216.out) hb)
                have n1_ := Aside0.mk (below_step (by repeat (first | (with_reducible first | exact HB.out | apply below_alloc | apply pw_below_drewN | apply below_drew1 | refine below_set ?_ GE216.out) | exact HB.out)) hb)
                clear BK216
                clear HB
                have BK216 := n0_
                have HB := n1_
                clear n0_ n1_
                (try clear hb)
                (try clear hb2)
                (try clear hk)
                (try clear hi)
                refine hK.out _ _ ⟨(blk_cell BK216.out 0).trans rfl, (blk_cell BK216.out 1).trans rfl, (blk_cell BK216.out 2).trans rfl, (blk_cell BK216.out 3).trans rfl⟩ (fun hHeld => ?_)
                clear hK K
                refine norm_ (a' := ?_) ?_ ?_
                rotate_left
                · show Act.put _ (some 11) _ = _
                  simp only [Act.put, List.setIfInBounds_toArray, List.set_cons_zero, List.set_cons_succ, i64_w, i32_w]
                  rfl
                refine one_ (i := 8) (N := some 16) zb17_Px20 rfl rfl (one_of HT_.out (by kernel_rfl)) (by decide) (fun K hK => ?_)
                refine goes_ Try.func33 (by kernel_rfl) rfl #[.int .u64 (IntKind.u64.wrap ((l0_0.length : Int))), .int .i64 2] (by rfl) rfl rfl (by (try simp only [List.map_toArray, List.map_cons, List.map_nil]); first | done | rfl | (simp only [List.length_drop, List.length_take]; rfl)) ?_
                with_reducible refine (hibernacleref01_Put.calls k (IntKind.u64.wrap ((l0_0.length : Int))) 2 t219 _ A5.out).mono ?_
                rintro e w20 ⟨rfl, hb⟩
                refine ⟨_, rfl, ?_⟩
                have n0_ := Aside0.mk (blk_below (g := gb216) (o := .cells #[.slice A0_0 l0_0.length c0_0, .string a0_1, .int .i64 a0_2, .int .u32 a0_3] 25 (0, 0)) (by (with_reducible repeat (first | refine blk_drewN ?_ _ | refine blk_drew ?_ | refine blk_alloc ?_ _)); exact BK216.out) hb)
                have n1_ := Aside0.mk (below_step (by repeat (first | (with_reducible first | exact HB.out | apply below_alloc | apply pw_below_drewN | apply below_drew1 | refine below_set ?_ GE216.out) | exact HB.out)) hb)
                clear BK216
                clear HB
                have BK216 := n0_
                have HB := n1_
                clear n0_ n1_
                (try clear hb)
                (try clear hb2)
                (try clear hk)
                (try clear hi)
                refine hK.out _ _ ⟨(blk_cell BK216.out 0).trans rfl, (blk_cell BK216.out 1).trans rfl, (blk_cell BK216.out 2).trans rfl, (blk_cell BK216.out 3).trans rfl⟩ (fun hHeld => ?_)
                clear hK K
                refine norm_ (a' := ?_) ?_ ?_
                rotate_left
                · show Act.put _ (some 16) _ = _
                  simp only [Act.put, List.setIfInBounds_toArray, List.set_cons_zero, List.set_cons_succ, i64_w, i32_w]
                  rfl
                refine pure_ (i := 9) (N := some 17) (v := ?_) (a' := ?_) zb18_Px20 rfl rfl (any_of HT_.out (by kernel_rfl)) (fun _ _ _ h => h) (Or.inl ⟨by rfl, ?_⟩) ?_ ?_
                rotate_left
                · intro w'
                  go_simp
                  with_reducible rfl
                rotate_left
                · simp only [Act.put, List.setIfInBounds_toArray, List.set_cons_zero, List.set_cons_succ, i64_w, i32_w]
                  rfl
                refine one_ (i := 14) (N := some 22) zb19_Px20 rfl rfl (one_of HT_.out (by kernel_rfl)) (by decide) (fun K hK => ?_)
                refine goes_ Try.func33 (by kernel_rfl) rfl #[.int .u64 (IntKind.u64.wrap ((a0_1.size : Int))), .int .i64 2] (by rfl) rfl rfl (by (try simp only [List.map_toArray, List.map_cons, List.map_nil]); first | done | rfl | (simp only [List.length_drop, List.length_take]; rfl)) ?_
                with_reducible refine (hibernacleref01_Put.calls k (IntKind.u64.wrap ((a0_1.size : Int))) 2 t220 _ A7.out).mono ?_
                rintro e w21 ⟨rfl, hb⟩
                refine ⟨_, rfl, ?_⟩
                have n0_ := Aside0.mk (blk_below (g := gb216) (o := .cells #[.slice A0_0 l0_0.length c0_0, .string a0_1, .int .i64 a0_2, .int .u32 a0_3] 25 (0, 0)) (by (with_reducible repeat (first | refine blk_drewN ?_ _ | refine blk_drew ?_ | refine blk_alloc ?_ _)); exact BK216.out) hb)
                have n1_ := Aside0.mk (below_step (by repeat (first | (with_reducible first | exact HB.out | apply below_alloc | apply pw_below_drewN | apply below_drew1 | refine below_set ?_ GE216.out) | exact HB.out)) hb)
                clear BK216
                clear HB
                have BK216 := n0_
                have HB := n1_
                clear n0_ n1_
                (try clear hb)
                (try clear hb2)
                (try clear hk)
                (try clear hi)
                refine hK.out _ _ ⟨(blk_cell BK216.out 0).trans rfl, (blk_cell BK216.out 1).trans rfl, (blk_cell BK216.out 2).trans rfl, (blk_cell BK216.out 3).trans rfl⟩ (fun hHeld => ?_)
                clear hK K
                refine norm_ (a' := ?_) ?_ ?_
                rotate_left
                · show Act.put _ (some 22) _ = _
                  simp only [Act.put, List.setIfInBounds_toArray, List.set_cons_zero, List.set_cons_succ, i64_w, i32_w]
                  rfl
                refine pure_ (i := 15) (N := some 23) (v := ?_) (a' := ?_) zb20_Px20 rfl rfl (any_of HT_.out (by kernel_rfl)) (fun _ _ _ h => h) (Or.inl ⟨by rfl, ?_⟩) ?_ ?_
                rotate_left
                · intro w'
                  go_simp
                  with_reducible rfl
                rotate_left
                · simp only [Act.put, List.setIfInBounds_toArray, List.set_cons_zero, List.set_cons_succ, i64_w, i32_w]
                  rfl
                refine one_ (i := 19) (N := some 27) zb21_Px20 rfl rfl (one_of HT_.out (by kernel_rfl)) (by decide) (fun K hK => ?_)
                refine goes_ Try.func33 (by kernel_rfl) rfl #[.int .u64 (IntKind.u64.wrap (a0_2)), .int .i64 2] (by rfl) rfl rfl (by (try simp only [List.map_toArray, List.map_cons, List.map_nil]); first | done | rfl | (simp only [List.length_drop, List.length_take]; rfl)) ?_
                with_reducible refine (hibernacleref01_Put.calls k (IntKind.u64.wrap (a0_2)) 2 t221 _ A9.out).mono ?_
                rintro e w22 ⟨rfl, hb⟩
                refine ⟨_, rfl, ?_⟩
                have n0_ := Aside0.mk (blk_below (g := gb216) (o := .cells #[.slice A0_0 l0_0.length c0_0, .string a0_1, .int .i64 a0_2, .int .u32 a0_3] 25 (0, 0)) (by (with_reducible repeat (first | refine blk_drewN ?_ _ | refine blk_drew ?_ | refine blk_alloc ?_ _)); exact BK216.out) hb)
                have n1_ := Aside0.mk (below_step (by repeat (first | (with_reducible first | exact HB.out | apply below_alloc | apply pw_below_drewN | apply below_drew1 | refine below_set ?_ GE216.out) | exact HB.out)) hb)
                clear BK216
                clear HB
                have BK216 := n0_
                have HB := n1_
                clear n0_ n1_
                (try clear hb)
                (try clear hb2)
                (try clear hk)
                (try clear hi)
                refine hK.out _ _ ⟨(blk_cell BK216.out 0).trans rfl, (blk_cell BK216.out 1).trans rfl, (blk_cell BK216.out 2).trans rfl, (blk_cell BK216.out 3).trans rfl⟩ (fun hHeld => ?_)
                clear hK K
                refine norm_ (a' := ?_) ?_ ?_
                rotate_left
                · show Act.put _ (some 27) _ = _
                  simp only [Act.put, List.setIfInBounds_toArray, List.set_cons_zero, List.set_cons_succ, i64_w, i32_w]
                  rfl
                refine pure_ (i := 20) (N := some 28) (v := ?_) (a' := ?_) zb22_Px20 rfl rfl (any_of HT_.out (by kernel_rfl)) (fun _ _ _ h => h) (Or.inl ⟨by rfl, ?_⟩) ?_ ?_
                rotate_left
                · intro w'
                  go_simp
                  with_reducible rfl
                rotate_left
                · simp only [Act.put, List.setIfInBounds_toArray, List.set_cons_zero, List.set_cons_succ, i64_w, i32_w]
                  rfl
                refine pure_ (i := 21) (N := some 4) (v := ?_) (a' := ?_) zb23_Px20 rfl rfl (any_of HT_.out (by kernel_rfl)) (fun _ _ _ h => h) (Or.inl ⟨by rfl, ?_⟩) ?_ ?_
                rotate_left
                · intro w'
                  go_simp
                  with_reducible rfl
                rotate_left
                · simp only [Act.put, List.setIfInBounds_toArray, List.set_cons_zero, List.set_cons_succ, i64_w, i32_w]
                  rfl
                refine done_ (done_of HT_.out (by kernel_rfl)) ?_
                try go_wp2
                have n0_ := Aside0.mk (blk_drew BK216.out)
                have n1_ := Aside0.mk (below_drew1 HB.out)
                clear BK216
                clear HB
                have BK216 := n0_
                have HB := n1_
                clear n0_ n1_
                refine start_ (n := 10) (S := fun w' => w'.cell? ⟨gb216, 0, none⟩ = some (.slice A0_0 l0_0.length c0_0) ∧ w'.cell? ⟨gb216, 1, none⟩ = some (.string a0_1) ∧ w'.cell? ⟨gb216, 2, none⟩ = some (.int .i64 a0_2) ∧ w'.cell? ⟨gb216, 3, none⟩ = some (.int .u32 a0_3)) (ds := []) #[false, false, false, false, false, false, false, false, false, false] (by kernel_rfl) rfl rfl ⟨(blk_cell BK216.out 0).trans rfl, (blk_cell BK216.out 1).trans rfl, (blk_cell BK216.out 2).trans rfl, (blk_cell BK216.out 3).trans rfl⟩ (fun hHeld => ?_); refine with_tabW hibernacleref12_Bytes.tab4 hibernacleref12_Bytes.bits4 (fun HT_ HW_ => ?_)
                generalize w22.drew = w23 at BK216 HB hHeld ⊢
                refine pure_ (i := 0) (N := some 29) (v := ?_) (a' := ?_) #[true, false, false, false, false, false, false, false, false, false] rfl rfl (any_of HT_.out (by kernel_rfl)) (fun _ _ _ h => h) (Or.inl ⟨by rfl, ?_⟩) ?_ ?_
                rotate_left
                · intro w'
                  go_simp
                  with_reducible rfl
                rotate_left
                · simp only [Act.put, List.setIfInBounds_toArray, List.set_cons_zero, List.set_cons_succ, i64_w, i32_w]
                  rfl
                refine pure_ (i := 1) (N := some 30) (v := ?_) (a' := ?_) #[true, true, false, false, false, false, false, false, false, false] rfl rfl (any_of HT_.out (by kernel_rfl)) (fun _ _ _ h => h) (Or.inl ⟨by rfl, ?_⟩) ?_ ?_
                rotate_left
                · intro w'
                  go_simp
                  with_reducible rfl
                rotate_left
                · simp only [Act.put, List.setIfInBounds_toArray, List.set_cons_zero, List.set_cons_succ, i64_w, i32_w]
                  rfl
                refine pure_ (i := 5) (N := some 34) (v := ?_) (a' := ?_) #[true, true, false, false, false, true, false, false, false, false] rfl rfl (any_of HT_.out (by kernel_rfl)) (fun _ _ _ h => h) (Or.inl ⟨by rfl, ?_⟩) ?_ ?_
                rotate_left
                · intro w'
                  go_simp
                  with_reducible rfl
                rotate_left
                · simp only [Act.put, List.setIfInBounds_toArray, List.set_cons_zero, List.set_cons_succ, i64_w, i32_w]
                  rfl
                refine take_ (i := 2) (N := some 31) (v := ?_) (a' := ?_) #[true, true, true, false, false, true, false, false, false, false] rfl rfl (take_ofW HT_.out HW_.out (by kernel_rfl)) (fun _ _ _ h => h) (Or.inl ⟨by rfl, ?_⟩) hHeld ?_ ?_
                rotate_left
                · rintro w' ⟨s0, s1, s2, s3⟩
                  go_simp
                  with_reducible rfl
                rotate_left
                · simp only [Act.put, List.setIfInBounds_toArray, List.set_cons_zero, List.set_cons_succ, i64_w, i32_w]
                  rfl
                refine take_ (i := 6) (N := some 35) (v := ?_) (a' := ?_) #[true, true, true, false, false, true, true, false, false, false] rfl rfl (take_ofW HT_.out HW_.out (by kernel_rfl)) (fun _ _ _ h => h) (Or.inl ⟨by rfl, ?_⟩) hHeld ?_ ?_
                rotate_left
                · rintro w' ⟨s0, s1, s2, s3⟩
                  go_simp
                  with_reducible rfl
                rotate_left
                · simp only [Act.put, List.setIfInBounds_toArray, List.set_cons_zero, List.set_cons_succ, i64_w, i32_w]
                  rfl
                refine one_ (i := 3) (N := some 32) #[true, true, true, true, false, true, true, false, false, false] rfl rfl (one_of HT_.out (by kernel_rfl)) (by decide) (fun K hK => ?_)
                refine goes_ Try.func28 (by kernel_rfl) rfl #[.agg #[.slice A0_0 l0_0.length c0_0, .string a0_1, .int .i64 a0_2, .int .u32 a0_3]] (by rfl) rfl rfl (by (try simp only [List.map_toArray, List.map_cons, List.map_nil]); first | done | rfl | (simp only [List.length_drop, List.length_take]; rfl)) ?_
                with_reducible refine (hibernacleref12_text.calls k _ _ l0_0 a0_1 a0_2 a0_3 t222 _ ?side1 ?side2 A12.out).mono ?_
                (case side1 => repeat (first | exact (Kd.C_below HR0_0.out HB.out) | (with_reducible refine Kd.C_alloc ?_ _) | (with_reducible refine Kd.C_drewN ?_ _) | (with_reducible refine Kd.C_drew ?_)))
                (case side2 => exact HC0_0.out)
                rintro e w24 ⟨rfl, hb⟩
                refine ⟨_, rfl, ?_⟩
                have n0_ := Aside0.mk (blk_below (g := gb216) (o := .cells #[.slice A0_0 l0_0.length c0_0, .string a0_1, .int .i64 a0_2, .int .u32 a0_3] 25 (0, 0)) (by (with_reducible repeat (first | refine blk_drewN ?_ _ | refine blk_drew ?_ | refine blk_alloc ?_ _)); exact BK216.out) hb)
                have n1_ := Aside0.mk (below_step (by repeat (first | (with_reducible first | exact HB.out | apply below_alloc | apply pw_below_drewN | apply below_drew1 | refine below_set ?_ GE216.out) | exact HB.out)) hb)
                clear BK216
                clear HB
                have BK216 := n0_
                have HB := n1_
                clear n0_ n1_
                (try clear hb)
                (try clear hb2)
                (try clear hk)
                (try clear hi)
                refine hK.out _ _ ⟨(blk_cell BK216.out 0).trans rfl, (blk_cell BK216.out 1).trans rfl, (blk_cell BK216.out 2).trans rfl, (blk_cell BK216.out 3).trans rfl⟩ (fun hHeld => ?_)
                clear hK K
                refine norm_ (a' := ?_) ?_ ?_
                rotate_left
                · show Act.put _ (some 32) _ = _
                  simp only [Act.put, List.setIfInBounds_toArray, List.set_cons_zero, List.set_cons_succ, i64_w, i32_w]
                  rfl
                refine pure_ (i := 4) (N := some 33) (v := ?_) (a' := ?_) #[true, true, true, true, true, true, true, false, false, false] rfl rfl (any_of HT_.out (by kernel_rfl)) (fun _ _ _ h => h) (Or.inl ⟨by rfl, ?_⟩) ?_ ?_
                rotate_left
                · intro w'
                  go_simp
                  with_reducible rfl
                rotate_left
                · simp only [Act.put, List.setIfInBounds_toArray, List.set_cons_zero, List.set_cons_succ, i64_w, i32_w]
                  rfl
                refine pure_ (i := 7) (N := some 36) (v := ?_) (a' := ?_) #[true, true, true, true, true, true, true, true, false, false] rfl rfl (any_of HT_.out (by kernel_rfl)) (fun _ _ _ h => h) (Or.inl ⟨by rfl, ?_⟩) ?_ ?_
                rotate_left
                · intro w'
                  go_simp
                  with_reducible rfl
                rotate_left
                · simp only [Act.put, List.setIfInBounds_toArray, List.set_cons_zero, List.set_cons_succ, i64_w, i32_w]
                  rfl
                refine pure_ (i := 8) (N := some 2) (v := ?_) (a' := ?_) #[true, true, true, true, true, true, true, true, true, false] rfl rfl (any_of HT_.out (by kernel_rfl)) (fun _ _ _ h => h) (Or.inl ⟨by rfl, ?_⟩) ?_ ?_
                rotate_left
                · intro w'
                  go_simp
                  with_reducible rfl
                rotate_left
                · simp only [Act.put, List.setIfInBounds_toArray, List.set_cons_zero, List.set_cons_succ, i64_w, i32_w]
                  rfl
                refine pure_ (i := 9) (N := some 3) (v := ?_) (a' := ?_) #[true, true, true, true, true, true, true, true, true, true] rfl rfl (any_of HT_.out (by kernel_rfl)) (fun _ _ _ h => h) (Or.inl ⟨by rfl, ?_⟩) ?_ ?_
                rotate_left
                · intro w'
                  go_simp
                  with_reducible rfl
                rotate_left
                · simp only [Act.put, List.setIfInBounds_toArray, List.set_cons_zero, List.set_cons_succ, i64_w, i32_w]
                  rfl
                refine done_ (done_of HT_.out (by kernel_rfl)) ?_
                try go_wp2
                go_ret2
                exact ⟨by first | rfl | (simp [errW_none, errW_some] <;> rfl) | (simp [*, errW_none, errW_some] <;> rfl), by repeat (first | (with_reducible first | exact HB.out | apply below_alloc | apply pw_below_drewN | apply below_drew1 | refine below_set ?_ GE216.out) | exact HB.out)⟩
              · rw [if_neg c14] at H
                exact absurd H (by simp)
            · rw [if_neg c13] at H
              exact absurd H (by simp)
          · rw [if_neg c11] at H
            exact absurd H (by simp)
        · rw [if_neg c10] at H
          exact absurd H (by simp)
      · rw [if_neg c8] at H
        exact absurd H (by simp)
    · rw [if_neg c6] at H
      exact absurd H (by simp)
  · rw [if_neg c3] at H
    have c3b0 : (t217 == 0) = false := beq_eq_false_iff_ne.mpr c3
    have c3b1 : (t217 != 0) = true := bne_iff_ne.mpr c3
    simp only [Option.some.injEq, Prod.mk.injEq] at H
    obtain ⟨rfl, rfl⟩ := H
    go_enter Try.func16, Try.ntmps16
    go_wp2_with (first | ((with_reducible refine gate_dst (N := 1) rfl ?_); refine box_event ?hg (N := 1) ?hd (cs := #[.slice A0_0 l0_0.length c0_0, .string a0_1, .int .i64 a0_2, .int .u32 a0_3]) (t := 25) ?hr ?_; (case hd => rfl); (case hg => rfl); (case hr => first | (go_simp; done) | (go_simp; rfl)); intro gb216 hg w25 hbox hb; have n0_ := Aside0.mk (below_step (by repeat (first | (with_reducible first | exact HB.out | apply below_alloc | apply pw_below_drewN | apply below_drew1) | exact HB.out)) hb); have n1_ := Aside0.mk (hbox); have n2_ := Aside0.mk ((by rw [hg]; exact (below_size (by repeat (first | (with_reducible first | exact HB.out | apply below_alloc | apply pw_below_drewN | apply below_drew1) | exact HB.out))) : w.heap.size ≤ gb216)); have n3_ := Aside0.mk ((by rw [hg]; exact (below_size (by repeat (first | (with_reducible first | exact HB.out | apply below_alloc | apply pw_below_drewN | apply below_drew1) | exact HB.out))) : w.heap.size ≤ gb216)); clear HB; have HB := n0_; have BK216 := n1_; have GW216 := n2_; have GE216 := n3_; clear n0_ n1_ n2_ n3_; clear hb hbox hg; have hcz26_0 : w25.cell? ⟨gb216, 0, none⟩ = some (.slice A0_0 l0_0.length c0_0) := (blk_cell BK216.out 0).trans rfl; have hcz26_1 : w25.cell? ⟨gb216, 1, none⟩ = some (.string a0_1) := (blk_cell BK216.out 1).trans rfl; have hcz26_2 : w25.cell? ⟨gb216, 2, none⟩ = some (.int .i64 a0_2) := (blk_cell BK216.out 2).trans rfl; have hcz26_3 : w25.cell? ⟨gb216, 3, none⟩ = some (.int .u32 a0_3) := (blk_cell BK216.out 3).trans rfl; have hfz26_0 := blk_frozen BK216.out 0; have hfz26_1 := blk_frozen BK216.out 1; have hfz26_2 := blk_frozen BK216.out 2; have hfz26_3 := blk_frozen BK216.out 3) | ((with_reducible refine gate_callee (f := 13) rfl ?_); refine goesL_ (some 6) rfl rfl Try.func13 (by kernel_rfl) rfl #[.agg #[.slice A0_0 l0_0.length c0_0, .string a0_1, .int .i64 a0_2, .int .u32 a0_3]] rfl (by (try simp only [List.map_toArray, List.map_cons, List.map_nil]); first | done | rfl | (simp only [List.length_drop, List.length_take]; rfl)) ?_; (with_reducible refine (hibernacleref12_Check.calls k _ _ l0_0 a0_1 a0_2 a0_3 t217 _ ?side1 ?side2 A2.out).mono ?_); (case side1 => repeat (first | exact (Kd.C_below HR0_0.out HB.out) | (with_reducible refine Kd.C_alloc ?_ _) | (with_reducible refine Kd.C_drewN ?_ _) | (with_reducible refine Kd.C_drew ?_))); (case side2 => exact HC0_0.out); rintro e w27 ⟨rfl, hb⟩; refine ⟨_, rfl, ?_⟩; have n0_ := Aside0.mk (blk_below (g := gb216) (o := .cells #[.slice A0_0 l0_0.length c0_0, .string a0_1, .int .i64 a0_2, .int .u32 a0_3] 25 (0, 0)) (by (with_reducible repeat (first | refine blk_drewN ?_ _ | refine blk_drew ?_ | refine blk_alloc ?_ _)); exact BK216.out) hb); have n1_ := Aside0.mk (below_step (by repeat (first | (with_reducible first | exact HB.out | apply below_alloc | apply pw_below_drewN | apply below_drew1 | refine below_set ?_ GE216.out) | exact HB.out)) hb); clear BK216; clear HB; have BK216 := n0_; have HB := n1_; clear n0_ n1_; (try clear hb); (try clear hb2); (try clear hk); (try clear hi)))
    go_ret2
    exact ⟨by first | rfl | (simp [errW_none, errW_some] <;> rfl) | (simp [*, errW_none, errW_some] <;> rfl), by repeat (first | (with_reducible first | exact HB.out | apply below_alloc | apply pw_below_drewN | apply below_drew1 | refine below_set ?_ GE216.out) | exact HB.out)⟩
end
end Go.Proofs.Ytgjhabeoaejcdaa.P
end
section
namespace Go.Proofs.Ytgjhabeoaejcdaa.P
open Go.RowKit Go.Proofs.YtgjhabeoaejcdaaW.PrintWords Go.Proofs.YtgjhabeoaejcdaaW.PrintLast Go.Proofs.YtgjhabeoaejcdaaW.PrintMore
attribute [local go_sem] max2_int min2_int max_two min_two max_three min_three max_four min_four
set_option linter.unusedVariables false
set_option linter.unusedSimpArgs false
def num_Get.l0 : Nat → ByteArray → Int → Int → Int → Option (Int)
  | 0, _, _, _, _ => none
  | k + 1, x0, x3, x7, x8 => if x8 < x7 then (if 0 ≤ x8 then (if x8 < (x0.size : Int) then (if 0 ≤ (wrap64 (8 * x8)) then (num_Get.l0 k x0 (Go.bits .or .u64 x3 (shl .u64 (IntKind.u64.wrap (bt x0 x8)) (wrap64 (8 * x8)))) x7 (wrap64 (x8 + 1))) else (none)) else (none)) else (none)) else (some x3)
def num_Get.f (k : Nat) (a0 : ByteArray) : Option (Int) := num_Get.l0 k a0 0 (mn (a0.size : Int) 8) 0
theorem num_Get.mono_l : ∀ k, (∀ y0 y1 y2 y3, LeO (num_Get.l0 k y0 y1 y2 y3) (num_Get.l0 (k + 1) y0 y1 y2 y3))
  | 0 => fun _ _ _ _ r h => by simp [num_Get.l0] at h
  | k + 1 => by
    have ih0 := num_Get.mono_l k
    · intro y0 y1 y2 y3
      unfold num_Get.l0
      repeat' first
      | (with_reducible exact ih0 _ _ _ _)
      | (with_reducible exact LeO.refl _)
      | (with_reducible exact LeO.none _)
      | (with_reducible refine LeO.ite ?_ ?_)
      | (with_reducible refine LeO.bind ?_ (fun _ => ?_))
      | exact ih0 _ _ _ _
      | exact LeO.none _
      | refine LeO.ite ?_ ?_
      | refine LeO.bind ?_ (fun _ => ?_)
theorem num_Get.mono : ∀ a0 k, LeO (num_Get.f k a0) (num_Get.f (k + 1) a0) := by
  intro a0 k
  have ih0 := num_Get.mono_l k
  unfold num_Get.f
  repeat' first
      | (with_reducible exact ih0 _ _ _ _)
      | (with_reducible exact LeO.refl _)
      | (with_reducible exact LeO.none _)
      | (with_reducible refine LeO.ite ?_ ?_)
      | (with_reducible refine LeO.bind ?_ (fun _ => ?_))
      | exact ih0 _ _ _ _
      | exact LeO.none _
      | refine LeO.ite ?_ ?_
      | refine LeO.bind ?_ (fun _ => ?_)
set_option maxHeartbeats 8000000 in
set_option maxRecDepth 100000 in
theorem num_Get.calls (k : Nat) (a0 : ByteArray) (r : Int) (w : World) (h : num_Get.f k a0 = some r) :
    Calls Try.prog 14 #[.string a0] w fun e w' => e = .returned (.int .u64 r) ∧ Below w.heap.size w w' := by
  have HB := Aside0.mk (Below.refl w.heap.size w)
  have H : (num_Get.l0 k a0 0 (mn (a0.size : Int) 8) 0) = some r := h
  clear h
  obtain ⟨ji2, hji2⟩ : ∃ j_ : Int, (mn (a0.size : Int) 8) = j_ := ⟨_, rfl⟩
  replace H : (num_Get.l0 k a0 0 ji2 0) = some r := by first | (rw [hji2] at H; exact H) | (simp only [hji2] at H ⊢; exact H)
  (try (have hji2h : ji2 ≤ 8 := by (rw [← hji2]; unfold mn; (repeat' split) <;> omega)))
  (try (have hji2g : ji2 ≤ 64 := by omega))
  (try (have hji2l : 0 ≤ ji2 := by (rw [← hji2]; unfold mn; (repeat' split) <;> omega)))
  (try (have hji2m : 0 ≤ ji2 := by omega))
  have hji2_ : (if 8 < (a0.size : Int) then 8 else (a0.size : Int)) = ji2 := hji2
  have H' := Aside0.mk H
  clear H
  go_enter Try.func14, Try.ntmps14
  go_wp2
  go_loopg [3, 8] k (fun kq v3 v8 w' => ∃ (x3_1 : Int) (x8_1 : Int), v3 = .int .u64 x3_1 ∧ v8 = .int .i64 x8_1 ∧ Aside0 (num_Get.l0 kq a0 x3_1 ji2 x8_1 = some r) ∧ Aside0 (kq ≤ k) ∧ Aside0 (Below w.heap.size w w'))
  case atStart => exact ⟨(0), (0), (by first | rfl | (simp; done) | (simp [*]; done)), (by first | rfl | (simp; done) | (simp [*]; done)), H', ⟨Nat.le_refl _⟩, ⟨by repeat (first | (with_reducible first | exact HB.out | apply below_alloc | apply pw_below_drewN | apply below_drew1) | exact HB.out)⟩⟩
  case round =>
    clear H'
    try clear c1
    try clear p2
    obtain ⟨x3_1, x8_1, rfl, rfl, HA, HK1, HB⟩ := hrel
    cases gk with
    | zero => exact absurd HA.out (by simp [num_Get.l0])
    | succ k1 =>
      have H := HA.out
      clear HA
      simp only [num_Get.l0] at H
      by_cases c3 : x8_1 < ji2
      · rw [if_pos c3] at H
        have c3b0 : decide (x8_1 < ji2) = true := decide_eq_true c3
        clear c3
        by_cases c4 : 0 ≤ x8_1
        · rw [if_pos c4] at H
          have c4b0 : decide (0 ≤ x8_1) = true := decide_eq_true c4
          clear c4
          by_cases c5 : x8_1 < (a0.size : Int)
          · rw [if_pos c5] at H
            have c5b0 : decide (x8_1 < (a0.size : Int)) = true := decide_eq_true c5
            clear c5
            obtain ⟨ji7, hji7⟩ : ∃ j_ : Int, (wrap64 (8 * x8_1)) = j_ := ⟨_, rfl⟩
            replace H : (if 0 ≤ (ji7) then (num_Get.l0 k1 a0 (Go.bits .or .u64 x3_1 (shl .u64 (IntKind.u64.wrap (bt a0 x8_1)) (ji7))) ji2 (wrap64 (x8_1 + 1))) else (none)) = some r := by first | (rw [hji7] at H; exact H) | (simp only [hji7] at H ⊢; exact H)
            have hji7w : (IntKind.i64.wrap (8 * x8_1)) = ji7 := (i64_w _).trans hji7
            by_cases c8 : 0 ≤ (ji7)
            · rw [if_pos c8] at H
              have c8b0 := eq_true c8
              have c8b1 : decide (0 ≤ (ji7)) = true := decide_eq_true c8
              clear c8
              obtain ⟨ji9, hji9⟩ : ∃ j_ : Int, (shl .u64 (IntKind.u64.wrap (bt a0 x8_1)) (ji7)) = j_ := ⟨_, rfl⟩
              replace H : (num_Get.l0 k1 a0 (Go.bits .or .u64 x3_1 (ji9)) ji2 (wrap64 (x8_1 + 1))) = some r := by first | (rw [hji9] at H; exact H) | (simp only [hji9] at H ⊢; exact H)
              have hji9_ : (IntKind.u64.wrap ((IntKind.u64.wrap (bt a0 x8_1)) * 2 ^ min (ji7).toNat 64)) = ji9 := hji9
              have hji9z : (ji7) ≤ 64 → (IntKind.u64.wrap ((IntKind.u64.wrap (bt a0 x8_1)) * 2 ^ (ji7).toNat)) = ji9 := shl_small hji9
              have H' := Aside0.mk H
              clear H
              have p6 : 0 ≤ (x8_1 : Int) := of_decide_eq_true (by first | (with_reducible assumption) | assumption)
              have q6 : x8_1 < (a0.size : Int) := of_decide_eq_true (by first | (with_reducible assumption) | assumption)
              have hx6 := bt_at a0 x8_1
              replace p6 := eq_true p6
              replace q6 := eq_true q6
              go_wp2
              go_roundg k1
              case measure => have := HK1.out; omega
              case rel => exact ⟨(Go.bits .or .u64 x3_1 (ji9)), (wrap64 (x8_1 + 1)), (by first | rfl | (simp; done) | (simp only [← hji9] <;> (first | rfl | simp)) | (simp [*]; done)), (by first | rfl | (simp; done) | (simp [*]; done)), H', ⟨by have := HK1.out; omega⟩, ⟨by repeat (first | (with_reducible first | exact HB.out | apply below_alloc | apply pw_below_drewN | apply below_drew1) | exact HB.out)⟩⟩
            · rw [if_neg c8] at H
              exact absurd H (by simp)
          · rw [if_neg c5] at H
            exact absurd H (by simp)
        · rw [if_neg c4] at H
          exact absurd H (by simp)
      · rw [if_neg c3] at H
        have c3b0 : decide (x8_1 < ji2) = false := decide_eq_false c3
        clear c3
        obtain rfl := Option.some.inj H
        go_wp2
        go_ret
        exact ⟨by first | rfl | (simp [errW_none, errW_some] <;> rfl) | (simp only [← hji2]; first | rfl | (simp [errW_none, errW_some] <;> rfl)) | (simp [*, errW_none, errW_some] <;> rfl), by repeat (first | (with_reducible first | exact HB.out | apply below_alloc | apply pw_below_drewN | apply below_drew1) | exact HB.out)⟩
end Go.Proofs.Ytgjhabeoaejcdaa.P
end
section
namespace Go.Proofs.Ytgjhabeoaejcdaa.Q
open Go.RowKit Go.Proofs.Ytgjhabeoaejcdaa.P Go.Proofs.YtgjhabeoaejcdaaW.PrintWords Go.Proofs.YtgjhabeoaejcdaaW.PrintLast Go.Proofs.YtgjhabeoaejcdaaW.PrintMore
theorem str_append (a b : List Int) : strOfNums (a ++ b) = strOfNums a ++ strOfNums b := by
  apply ByteArray.ext
  rw [ByteArray.data_append]
  simp [strOfNums]
theorem str_nil : strOfNums [] = (⟨#[]⟩ : ByteArray) := rfl
theorem app_nil (a : ByteArray) : a ++ (⟨#[]⟩ : ByteArray) = a := by
  apply ByteArray.ext; rw [ByteArray.data_append]; simp
theorem nil_app (a : ByteArray) : (⟨#[]⟩ : ByteArray) ++ a = a := by
  apply ByteArray.ext; rw [ByteArray.data_append]; simp
theorem app_assoc (a b c : ByteArray) : a ++ b ++ c = a ++ (b ++ c) := by
  apply ByteArray.ext; simp only [ByteArray.data_append, Array.append_assoc]
def zs (n : Nat) : ByteArray := strOfNums (List.replicate n 0)
theorem zs_size (n : Nat) : (zs n).size = n := by rw [zs, strOfNums_size, List.length_replicate]
theorem repeat_zs (n : Nat) (h : n ≤ 140737488355328) : strings_Repeat.f (⟨#[0]⟩ : ByteArray) n = some (zs n) := by
  unfold strings_Repeat.f
  have h1 : (⟨#[0]⟩ : ByteArray).size = 1 := rfl
  rw [if_pos ⟨by omega, by omega, by rw [h1]; omega⟩]
  congr 1
  have : ∀ m, Lib.repeatL [0] m = List.replicate m 0 := by
    intro m
    induction m with
    | zero => rfl
    | succ m ih => simp [Lib.repeatL, ih, List.replicate_succ]
  show (⟨(Lib.repeatL [0] ((n : Int)).toNat).toArray⟩ : ByteArray) = _
  rw [this, Int.toNat_natCast]
  unfold zs strOfNums
  rw [List.map_replicate]
  rfl
theorem tdiv_nn {a b : Int} (h : 0 ≤ a) : Int.tdiv a b = a / b := Int.tdiv_eq_ediv_of_nonneg h
theorem tmod_nn {a b : Int} (h : 0 ≤ a) : Int.tmod a b = a % b := Int.tmod_eq_emod_of_nonneg h
def pg (n : Nat) : Nat := (n + 127) / 128
theorem exe_pages_eq (n : Nat) (h : n ≤ 4611686018427387904) : exe_pages.f n = some (pg n : Int) := by
  unfold exe_pages.f pg
  rw [wrap64_id (n := (n : Int) + 128) (by omega) (by omega), wrap64_id (n := (n : Int) + 128 - 1) (by omega) (by omega), tdiv_nn (by omega), wrap64_id (by omega) (by omega)]
  rw [Option.some.injEq]; omega
theorem u64_nn (x : Int) : 0 ≤ IntKind.u64.wrap x ∧ IntKind.u64.wrap x < 18446744073709551616 := by rw [u64_wrap]; omega
theorem rd_nat (l : List Int) (i : Nat) : rd l (i : Int) = l.getD i 0 := by unfold rd; rw [Int.toNat_natCast]
theorem drop_getD (l : List Int) (i : Nat) (h : i < l.length) : l.drop i = l.getD i 0 :: l.drop (i + 1) := by
  rw [List.drop_eq_getElem_cons h, List.getD_eq_getElem?_getD, List.getElem?_eq_getElem h]; rfl
def tx (l : List Int) : ByteArray := strOfNums (textNums l)
theorem tx_size (l : List Int) : (tx l).size = 4 * l.length := by rw [tx, strOfNums_size, textNums_length]
theorem exe_text_eq (l : List Int) (hl : l.length ≤ 100000) : exe_text.f l = some (tx l) := by
  unfold exe_text.f; rw [if_pos (by omega)]; rfl
end Go.Proofs.Ytgjhabeoaejcdaa.Q
end
section
namespace Go.Proofs.Ytgjhabeoaejcdaa.Q
open Go.RowKit Go.Proofs.Ytgjhabeoaejcdaa.P Go.Proofs.YtgjhabeoaejcdaaW.PrintWords Go.Proofs.YtgjhabeoaejcdaaW.PrintLast Go.Proofs.YtgjhabeoaejcdaaW.PrintMore
def chk (l : List Int) (b : ByteArray) (c e : Int) : Int :=
  if 1 ≤ l.length ∧ l.length ≤ 448 ∧ 0 ≤ c ∧ c ≤ 1792 ∧ e % 4 = 0 ∧ e < 4 * (l.length : Int) ∧ pg (4 * l.length) + pg (b.size + c.toNat) ≤ 14 then 0 else 1
theorem u32_id {n : Int} (h0 : 0 ≤ n) (h1 : n < 4294967296) : IntKind.u32.wrap n = n := by
  unfold IntKind.wrap
  simp [IntKind.bits, IntKind.signed]
  omega
theorem exe_check (l : List Int) (b : ByteArray) (c e : Int) (hb : b.size ≤ 1000000000) (he0 : 0 ≤ e) : exe_Check.f l b c e = some (chk l b c e) := by
  unfold exe_Check.f chk
  by_cases h1 : l.length < 1
  · rw [if_pos (by omega), if_neg (by omega)]
  rw [if_neg (by omega)]
  by_cases h2 : 448 < l.length
  · rw [if_pos (by omega), if_neg (by omega)]
  rw [if_neg (by omega)]
  by_cases h3 : c < 0
  · rw [if_pos h3, if_neg (by omega)]
  rw [if_neg h3]
  by_cases h4 : 1792 < c
  · rw [if_pos (by omega), if_neg (by omega)]
  rw [if_neg (by omega), tmod_nn he0]
  by_cases h5 : e % 4 = 0
  · rw [if_pos h5, wrap64_id (n := 4 * (l.length : Int)) (by omega) (by omega), u32_id (n := 4 * (l.length : Int)) (by omega) (by omega)]
    by_cases h6 : e < 4 * (l.length : Int)
    · have e1 : 4 * (l.length : Int) = ((4 * l.length : Nat) : Int) := by omega
      have e2 : (b.size : Int) + c = ((b.size + c.toNat : Nat) : Int) := by omega
      have p1 : pg (4 * l.length) ≤ 15 := by unfold pg; omega
      have p2 : pg (b.size + c.toNat) ≤ 100000000 := by unfold pg; omega
      rw [if_neg (by omega), e1, exe_pages_eq _ (by omega), Option.bind_some, wrap64_id (n := (b.size : Int) + c) (by omega) (by omega), e2, exe_pages_eq _ (by omega), Option.bind_some,
        wrap64_id (n := (pg (4 * l.length) : Int) + (pg (b.size + c.toNat) : Int)) (by omega) (by omega)]
      by_cases h7 : pg (4 * l.length) + pg (b.size + c.toNat) ≤ 14
      · rw [if_neg (by omega), if_pos (by omega)]
      · rw [if_pos (by omega), if_neg (by omega)]
    · rw [if_pos (by omega), if_neg (by omega)]
  · rw [if_neg h5, if_neg (by omega)]
def page (s : ByteArray) (i : Nat) : ByteArray := (s ++ zs (128 * pg s.size - s.size)).extract (128 * i) (128 * i + 128)
def pagesOf (s : ByteArray) (at_ : Int) (wr : Bool) : List S33 := (List.range (pg s.size)).map fun i => ⟨at_ + (i : Nat), page s i, wr⟩
theorem pagesOf_length (s : ByteArray) (at_ : Int) (wr : Bool) : (pagesOf s at_ wr).length = pg s.size := by simp [pagesOf]
theorem zs_add (a b : Nat) : zs (a + b) = zs a ++ zs b := by unfold zs; rw [← List.replicate_append_replicate, str_append]
theorem extract_all (s : ByteArray) (n : Nat) (h : s.size ≤ n) : s.extract 0 n = s := by
  apply ByteArray.ext
  rw [ByteArray.data_extract]
  apply Array.toList_inj.mp
  rw [Array.toList_extract, List.extract_eq_take_drop]
  simp
  have : s.data.size = s.size := rfl
  rw [List.take_of_length_le (by rw [Array.length_toList]; omega)]
theorem extract_none (s : ByteArray) (a b : Nat) (h : s.size ≤ a ∨ b ≤ a) : s.extract a b = ⟨#[]⟩ := by
  have h1 : (s.extract a b).size = 0 := by rw [ByteArray.size_extract]; omega
  apply ByteArray.ext
  exact Array.eq_empty_of_size_eq_zero h1
theorem zs_extract (n m : Nat) (h : m ≤ n) : (zs n).extract 0 m = zs m := by
  obtain ⟨d, rfl⟩ := Nat.exists_eq_add_of_le h
  rw [zs_add, ByteArray.extract_append, zs_size, extract_all _ _ (by rw [zs_size]; omega), extract_none _ _ _ (by omega), app_nil]
theorem page_eq (s : ByteArray) (i : Nat) (h : i < pg s.size) :
    s.extract (128 * i) (min s.size (128 * i + 128)) ++ zs (128 - (s.extract (128 * i) (min s.size (128 * i + 128))).size) = page s i := by
  unfold pg at h
  unfold page
  rw [ByteArray.extract_append]
  have hp : pg s.size = (s.size + 127) / 128 := rfl
  have e1 : (s.extract (128 * i) (min s.size (128 * i + 128))).size = min s.size (128 * i + 128) - 128 * i := by rw [ByteArray.size_extract]; omega
  by_cases hl : 128 * i + 128 ≤ s.size
  · rw [e1, Nat.min_eq_right hl, extract_none (zs _) _ _ (by omega), show 128 - (128 * i + 128 - 128 * i) = 0 by omega]; rfl
  · have e2 : s.extract (128 * i) (min s.size (128 * i + 128)) = s.extract (128 * i) (128 * i + 128) := by
      apply ByteArray.ext
      rw [ByteArray.data_extract, ByteArray.data_extract]
      apply Array.toList_inj.mp
      rw [Array.toList_extract, Array.toList_extract, List.extract_eq_take_drop, List.extract_eq_take_drop]
      have : s.data.size = s.size := rfl
      rw [List.take_of_length_le (by rw [List.length_drop, Array.length_toList]; omega), List.take_of_length_le (by rw [List.length_drop, Array.length_toList]; omega)]
    rw [e1, e2, Nat.min_eq_left (by omega), show 128 * i - s.size = 0 by omega, zs_extract _ _ (by omega)]
    congr 2
    omega
theorem range_drop_map {α : Type} (n i : Nat) (f : Nat → α) (h : i < n) : ((List.range n).drop i).map f = f i :: ((List.range n).drop (i + 1)).map f := by
  rw [List.drop_eq_getElem_cons (by simpa using h)]
  simp
theorem exe_cut_loop (s : ByteArray) (at_ : Int) (wr : Bool) (hs : s.size ≤ 1000000) (ha0 : 0 ≤ at_) (ha1 : at_ ≤ 1000000) : ∀ (d i : Nat) (acc : List S33), i + d = pg s.size → acc.length = i →
    Ev (fun k => exe_cut.l0 k s at_ wr acc (pg s.size : Int) i) (acc ++ ((List.range (pg s.size)).drop i).map fun (i : Nat) => ⟨at_ + (i : Nat), page s i, wr⟩) := by
  have hp : pg s.size = (s.size + 127) / 128 := rfl
  intro d
  induction d with
  | zero =>
    intro i acc hi ha
    refine Ev.step (f := fun _ => some acc) (fun k => ?_) ?_
    · simp only [exe_cut.l0]; rw [if_neg (by omega)]
    · rw [List.drop_of_length_le (by simp; omega)]; simp only [List.map_nil, List.append_nil]; exact Ev.now _
  | succ d ih =>
    intro i acc hi ha
    have e1 : wrap64 ((i : Int) + 1) = ((i + 1 : Nat) : Int) := by rw [wrap64_id (by omega) (by omega)]; omega
    have e2 : wrap64 ((i : Int) * 128) = ((128 * i : Nat) : Int) := by rw [wrap64_id (by omega) (by omega)]; omega
    have e3 : wrap64 (((i + 1 : Nat) : Int) * 128) = ((128 * i + 128 : Nat) : Int) := by rw [wrap64_id (by omega) (by omega)]; omega
    have e4 : mn (s.size : Int) ((128 * i + 128 : Nat) : Int) = ((min s.size (128 * i + 128) : Nat) : Int) := by unfold mn; split <;> omega
    have e5 : wrap64 (at_ + (i : Int)) = at_ + (i : Nat) := wrap64_id (by omega) (by omega)
    have e6 : (s.extract (128 * i) (min s.size (128 * i + 128))).size = min s.size (128 * i + 128) - 128 * i := by rw [ByteArray.size_extract]; omega
    have e7 : wrap64 (128 - ((s.extract (128 * i) (min s.size (128 * i + 128))).size : Int)) = ((128 - (s.extract (128 * i) (min s.size (128 * i + 128))).size : Nat) : Int) := by rw [wrap64_id (by omega) (by omega)]; omega
    refine Ev.step (f := fun k => exe_cut.l0 k s at_ wr (acc ++ [⟨at_ + (i : Nat), page s i, wr⟩]) (pg s.size : Int) ((i + 1 : Nat) : Int)) (fun k => ?_) ?_
    · simp only [exe_cut.l0]
      simp only [e1, e2, e3, e4, e5, Int.toNat_natCast, e7]
      rw [if_pos (by omega), if_pos (by omega), if_pos (by omega), if_pos (by omega), repeat_zs _ (by omega), Option.bind_some, page_eq s i (by omega), zs_size, if_pos (by omega), if_pos (by omega)]
    · have := ih (i + 1) (acc ++ [⟨at_ + (i : Nat), page s i, wr⟩]) (by omega) (by simp [ha])
      rw [range_drop_map _ _ _ (by omega)]
      simpa using this
theorem exe_cut_eq (s : ByteArray) (at_ : Int) (wr : Bool) (hs : s.size ≤ 1000000) (ha0 : 0 ≤ at_) (ha1 : at_ ≤ 1000000) : Ev (fun k => exe_cut.f k s at_ wr) (pagesOf s at_ wr) := by
  unfold exe_cut.f
  simp only [exe_pages_eq s.size (by omega), Option.bind_some]
  have := exe_cut_loop s at_ wr hs ha0 ha1 (pg s.size) 0 [] (by omega) rfl
  simpa [pagesOf] using this
def lays (l : List Int) (b : ByteArray) (c : Nat) : List S33 :=
  pagesOf (tx l) 0 false ++ pagesOf (b ++ zs c) (pg (4 * l.length) : Int) true ++ [⟨15, zs 128, true⟩]
theorem last_page : pagesOf (zs 128) 15 true = [⟨15, zs 128, true⟩] := by
  unfold pagesOf
  rw [zs_size, show pg 128 = 1 from rfl]
  simp [page, zs_size, show pg 128 = 1 from rfl]
  rw [show zs 0 = (⟨#[]⟩ : ByteArray) from rfl, app_nil, extract_all _ _ (by rw [zs_size]; omega)]
theorem chk_bounds {l : List Int} {b : ByteArray} {c e : Int} (h : chk l b c e = 0) : 1 ≤ l.length ∧ l.length ≤ 448 ∧ 0 ≤ c ∧ c ≤ 1792 ∧ e % 4 = 0 ∧ e < 4 * (l.length : Int) ∧ pg (4 * l.length) + pg (b.size + c.toNat) ≤ 14 := by
  unfold chk at h
  split at h
  · assumption
  · omega
theorem exe_lay (l : List Int) (b : ByteArray) (c e : Int) (hb : b.size ≤ 1000000000) (he0 : 0 ≤ e) :
    Ev (fun k => exe_Lay.f k l b c e) (if chk l b c e = 0 then (lays l b c.toNat, 0) else ([], 1)) := by
  unfold exe_Lay.f
  simp only [exe_check l b c e hb he0, Option.bind_some]
  by_cases hc : chk l b c e = 0
  · have H := chk_bounds hc
    have hp := H.2.2.2.2.2.2
    have hb2 : b.size ≤ 1792 := by unfold pg at hp; omega
    rw [if_pos hc]
    refine Ev.congr (fun k => if_pos hc) ?_
    simp only [exe_text_eq l (by omega), Option.bind_some]
    refine Ev.bind (exe_cut_eq (tx l) 0 false (by rw [tx_size]; omega) (by omega) (by omega)) ?_
    obtain ⟨n, rfl⟩ := Int.eq_ofNat_of_zero_le H.2.2.1
    rw [Int.toNat_natCast] at *
    unfold exe_Lay_1.f
    simp only [repeat_zs n (by omega), Option.bind_some, zs_size]
    refine Ev.congr (fun k => if_pos (by omega)) ?_
    have p1 : pg (4 * l.length) ≤ 14 := by omega
    have hz : (b ++ zs n).size = b.size + n := by rw [ByteArray.size_append, zs_size]
    refine Ev.bind (exe_cut_eq (b ++ zs n) _ true (by rw [hz]; omega) (by omega) (by rw [pagesOf_length, tx_size]; omega)) ?_
    refine Ev.congr (fun k => if_pos (by rw [pagesOf_length, pagesOf_length, tx_size, hz]; omega)) ?_
    have h128 := repeat_zs 128 (by omega)
    rw [show ((128 : Nat) : Int) = 128 from rfl] at h128
    simp only [h128, Option.bind_some]
    refine Ev.bind (exe_cut_eq (zs 128) 15 true (by rw [zs_size]; omega) (by omega) (by omega)) ?_
    rw [last_page, pagesOf_length, tx_size]
    refine Ev.congr (fun k => if_pos (by rw [List.length_append, pagesOf_length, pagesOf_length, tx_size, hz]; simp only [List.length_cons, List.length_nil]; omega)) ?_
    exact Ev.now _
  · rw [if_neg hc]
    refine Ev.congr (fun k => if_neg hc) ?_
    have : chk l b c e = 1 := by unfold chk at *; split <;> simp_all
    rw [this]
    exact Ev.now _
end Go.Proofs.Ytgjhabeoaejcdaa.Q
end
section
namespace Go.Proofs.Ytgjhabeoaejcdaa.Q
open Go.RowKit Go.Proofs.Ytgjhabeoaejcdaa.P Go.Proofs.YtgjhabeoaejcdaaW.PrintWords Go.Proofs.YtgjhabeoaejcdaaW.PrintLast Go.Proofs.YtgjhabeoaejcdaaW.PrintMore
def le (x : Int) (n : Nat) : ByteArray := strOfNums (leNums x n)
theorem le_size (x : Int) (n : Nat) : (le x n).size = n := by rw [le, strOfNums_size, leNums_length]
theorem put_eq (x : Int) (n : Nat) (hn : n ≤ 8) : num_Put.f x n = some (le x n) := by
  unfold num_Put.f
  rw [show (min (max (n : Int) 0) 8).toNat = n by omega]; rfl
theorem u64_same {x : Int} (h0 : 0 ≤ x) (h1 : x < 18446744073709551616) : IntKind.u64.wrap x = x := by rw [u64_wrap]; omega
def headOf (l : List Int) (b : ByteArray) (c e : Int) : ByteArray := (⟨#[104, 105, 98, 120]⟩ : ByteArray) ++ le e 4 ++ le l.length 2 ++ le b.size 2 ++ le c 2
def fileOf (l : List Int) (b : ByteArray) (c e : Int) : ByteArray := headOf l b c e ++ tx l ++ b
theorem hibx_size : (⟨#[104, 105, 98, 120]⟩ : ByteArray).size = 4 := rfl
theorem head_size (l : List Int) (b : ByteArray) (c e : Int) : (headOf l b c e).size = 14 := by
  unfold headOf; simp only [ByteArray.size_append, le_size, hibx_size]
theorem file_size (l : List Int) (b : ByteArray) (c e : Int) : (fileOf l b c e).size = 14 + 4 * l.length + b.size := by
  unfold fileOf; simp only [ByteArray.size_append, head_size, tx_size]
theorem exe_bytes (l : List Int) (b : ByteArray) (c e : Int) (hb : b.size ≤ 1000000000) (he0 : 0 ≤ e) (he1 : e < 4294967296) :
    exe_Bytes.f l b c e = some (if chk l b c e = 0 then (fileOf l b c e, 0) else ((⟨#[]⟩ : ByteArray), 1)) := by
  unfold exe_Bytes.f
  rw [exe_check l b c e hb he0, Option.bind_some]
  by_cases hc : chk l b c e = 0
  · have H := chk_bounds hc
    have hp := H.2.2.2.2.2.2
    have hb2 : b.size ≤ 1792 := by unfold pg at hp; omega
    have p4 := put_eq e 4 (by omega)
    have p1 := put_eq (l.length : Int) 2 (by omega)
    have p2 := put_eq (b.size : Int) 2 (by omega)
    have p3 := put_eq c 2 (by omega)
    rw [show ((4 : Nat) : Int) = 4 from rfl] at p4
    rw [show ((2 : Nat) : Int) = 2 from rfl] at p1 p2 p3
    rw [if_pos hc, if_pos hc, u64_same he0 (by omega), p4, Option.bind_some, if_pos (by rw [le_size]; omega)]
    unfold exe_Bytes_1.f
    rw [u64_same (x := (l.length : Int)) (by omega) (by omega), u64_same (x := (b.size : Int)) (by omega) (by omega), u64_same (x := c) (by omega) (by omega), p1, p2, p3, exe_text_eq l (by omega)]
    simp only [Option.bind_some, ByteArray.size_append, le_size, hibx_size, tx_size]
    rw [if_pos (by omega), if_pos (by omega), if_pos (by omega), if_pos (by omega), if_pos (by omega)]
    rfl
  · have : chk l b c e = 1 := by unfold chk at *; split <;> simp_all
    rw [if_neg hc, if_neg hc, this]
theorem chk_one : chk [7] ⟨#[]⟩ 0 0 = 0 := by decide
theorem lays_one : lays [7] ⟨#[]⟩ 0 = [⟨0, page (tx [7]) 0, false⟩, ⟨15, zs 128, true⟩] := by
  unfold lays pagesOf
  rw [tx_size, ByteArray.size_append, zs_size]
  rfl
theorem awake_ev : Ev (fun k => hibernaclelaw12_awake.f k) true := by
  unfold hibernaclelaw12_awake.f
  simp only [Option.bind_some]
  have hb := exe_bytes [7] ⟨#[]⟩ 0 0 (by decide) (by omega) (by omega)
  have hl := exe_lay [7] ⟨#[]⟩ 0 0 (by decide) (by omega)
  rw [chk_one, if_pos rfl] at hb hl
  simp only [hb, Option.bind_some]
  refine Ev.bind hl ?_
  have e18 : ((fileOf [7] ⟨#[]⟩ 0 0).size : Int) = 18 := by rw [file_size]; rfl
  simp only [show (0 : Int).toNat = 0 from rfl, lays_one, e18]
  exact Ev.now _
theorem great_eq (l : List Int) (b : ByteArray) (c e : Int) : hibernaclelaw12_great.f l b c e = some (decide (l.length > 600 ∨ b.size > 3000)) := by
  unfold hibernaclelaw12_great.f
  by_cases h : l.length > 600
  · rw [if_pos (by omega), decide_eq_true (Or.inl h)]
  · rw [if_neg (by omega)]
    congr 1
    apply decide_eq_decide.mpr
    omega
end Go.Proofs.Ytgjhabeoaejcdaa.Q
end
section
namespace Go.Proofs.Ytgjhabeoaejcdaa.Q
open Go.RowKit Go.Proofs.Ytgjhabeoaejcdaa.P Go.Proofs.YtgjhabeoaejcdaaW.PrintWords Go.Proofs.YtgjhabeoaejcdaaW.PrintLast Go.Proofs.YtgjhabeoaejcdaaW.PrintMore
def ofB : List Int → Int
  | [] => 0
  | x :: xs => x + 256 * ofB xs
theorem bytesOf_range (s : ByteArray) : ∀ x ∈ bytesOf s, 0 ≤ x ∧ x < 256 := by
  intro x hx
  unfold bytesOf at hx
  obtain ⟨b, _, rfl⟩ := List.mem_map.mp hx
  have := b.toNat_lt
  omega
theorem bytesOf_str (xs : List Int) (h : ∀ x ∈ xs, 0 ≤ x ∧ x < 256) : bytesOf (strOfNums xs) = xs := by
  unfold bytesOf
  rw [strOfNums_data, List.map_map]
  conv => rhs; rw [← List.map_id xs]
  apply List.map_congr_left
  intro x hx
  have := h x hx
  simp only [Function.comp, id]
  rw [UInt8.toNat_ofNat']
  omega
theorem bt_getD (s : ByteArray) (i : Nat) : bt s (i : Int) = (bytesOf s).getD i 0 := by
  rw [← rd_bytesOf]; unfold rd; rw [Int.toNat_natCast]
theorem byte_at (s : ByteArray) (i : Nat) (h : i < s.size) : 0 ≤ bt s (i : Int) ∧ bt s (i : Int) < 256 := by
  have := bt_range s (i : Int); omega
theorem bits_up (acc b : Int) (i : Nat) (hi : i ≤ 7) (ha0 : 0 ≤ acc) (ha : acc < 256 ^ i) (hb0 : 0 ≤ b) (hb : b < 256) :
    bits .or .u64 acc (shl .u64 (IntKind.u64.wrap b) (8 * (i : Int))) = acc + b * 256 ^ i := by
  have hw : ∀ n : Int, 0 ≤ n → n < 2 ^ 64 → IntKind.u64.wrap n = n := fun n h0 h1 => by rw [u64_wrap]; omega
  have e1 : (2 : Int) ^ min (8 * (i : Int)).toNat IntKind.u64.bits = 256 ^ i := by
    have : min (8 * (i : Int)).toNat IntKind.u64.bits = 8 * i := by
      have : IntKind.u64.bits = 64 := rfl
      omega
    rw [this, two_pow8]
  have hp : (0 : Int) < 256 ^ i := Int.pow_pos (by omega)
  have hm : (256 : Int) ^ i * 256 ≤ 18446744073709551616 := by
    have : (256 : Int) ^ i ≤ 72057594037927936 := by
      obtain rfl | rfl | rfl | rfl | rfl | rfl | rfl | rfl : i = 0 ∨ i = 1 ∨ i = 2 ∨ i = 3 ∨ i = 4 ∨ i = 5 ∨ i = 6 ∨ i = 7 := by omega
      all_goals decide
    omega
  have h2 : b * 256 ^ i ≤ 255 * 256 ^ i := Int.mul_le_mul_of_nonneg_right (by omega) (by omega)
  have h3 : 0 ≤ b * 256 ^ i := Int.mul_nonneg hb0 (by omega)
  have h4 : b * 256 ^ i < 18446744073709551616 := by omega
  have h5 : acc < 18446744073709551616 := by omega
  unfold shl
  rw [e1, u64_same (x := b) hb0 (by omega), u64_same h3 h4]
  obtain ⟨x, hx⟩ := Int.eq_ofNat_of_zero_le h3
  obtain ⟨a, rfl⟩ := Int.eq_ofNat_of_zero_le ha0
  have hj := bits_join .u64 64 (by decide) hw (8 * i) (b * 256 ^ i) a h3 (by rw [two_pow8]; exact Int.mul_emod_left b (256 ^ i)) (by omega) (by omega) (by rw [two_pow8]; exact ha) (by omega)
  rw [hx] at hj ⊢
  have b1 := (bits_nat .u64 64 (by decide) hw a x (by omega) (by omega)).2
  have b2 := (bits_nat .u64 64 (by decide) hw x a (by omega) (by omega)).2
  rw [b1, Nat.or_comm, ← b2, hj]
  omega
theorem ofB_range (xs : List Int) (h : ∀ x ∈ xs, 0 ≤ x ∧ x < 256) : 0 ≤ ofB xs ∧ ofB xs < 256 ^ xs.length := by
  induction xs with
  | nil => simp [ofB]
  | cons x xs ih =>
    have h1 := ih fun y hy => h y (List.mem_cons_of_mem _ hy)
    have h2 := h x (List.mem_cons_self ..)
    simp only [ofB, List.length_cons, Int.pow_succ]
    omega
theorem ofB_append (a b : List Int) : ofB (a ++ b) = ofB a + 256 ^ a.length * ofB b := by
  induction a with
  | nil => simp [ofB]
  | cons x a ih => simp only [List.cons_append, ofB, ih, List.length_cons, Int.pow_succ]; rw [Int.mul_add, ← Int.mul_assoc, Int.mul_comm (256 ^ a.length) 256]; omega
theorem num_get_loop (s : ByteArray) (hs : s.size ≤ 8) : ∀ (d i : Nat), i + d = s.size →
    Ev (fun k => num_Get.l0 k s (ofB ((bytesOf s).take i)) (s.size : Int) i) (ofB (bytesOf s)) := by
  intro d
  induction d with
  | zero =>
    intro i hi
    refine Ev.step (f := fun _ => some (ofB (bytesOf s))) (fun k => ?_) (Ev.now _)
    simp only [num_Get.l0]; rw [if_neg (by omega), List.take_of_length_le (by rw [bytesOf_length]; omega)]
  | succ d ih =>
    intro i hi
    have e1 : wrap64 ((i : Int) + 1) = ((i + 1 : Nat) : Int) := by rw [wrap64_id (by omega) (by omega)]; omega
    have e8 : wrap64 (8 * (i : Int)) = 8 * (i : Int) := wrap64_id (by omega) (by omega)
    have hl : ((bytesOf s).take i).length = i := by rw [List.length_take, bytesOf_length]; omega
    have hr := ofB_range ((bytesOf s).take i) fun x hx => bytesOf_range s x (List.mem_of_mem_take hx)
    rw [hl] at hr
    have hb := byte_at s i (by omega)
    refine Ev.step (f := fun k => num_Get.l0 k s (ofB ((bytesOf s).take (i + 1))) (s.size : Int) ((i + 1 : Nat) : Int)) (fun k => ?_) (ih (i + 1) (by omega))
    simp only [num_Get.l0, e1, e8]
    rw [if_pos (by omega), if_pos (by omega), if_pos (by omega), if_pos (by omega), bits_up _ _ i (by omega) hr.1 hr.2 hb.1 hb.2]
    congr 1
    rw [List.take_add_one, ofB_append, hl, bt_getD, List.getD_eq_getElem?_getD]
    rw [List.getElem?_eq_getElem (by rw [bytesOf_length]; omega)]
    simp only [Option.getD_some, Option.toList_some, ofB]
    rw [Int.mul_zero, Int.add_zero, Int.mul_comm]
theorem num_get (s : ByteArray) (hs : s.size ≤ 8) : Ev (fun k => num_Get.f k s) (ofB (bytesOf s)) := by
  have := num_get_loop s hs s.size 0 (by omega)
  unfold num_Get.f
  rw [show mn (s.size : Int) 8 = (s.size : Int) by unfold mn; split <;> omega]
  exact this
theorem bytesOf_le (x : Int) (n : Nat) : bytesOf (le x n) = leNums x n := bytesOf_str _ (leNums_range n x)
theorem ofB_le4 (x : Int) : ofB (leNums x 4) = x % 4294967296 := by simp only [leNums, ofB]; omega
theorem ofB_le2 (x : Int) : ofB (leNums x 2) = x % 65536 := by simp only [leNums, ofB]; omega
theorem extract_left (a c : ByteArray) (i j : Nat) (h : j ≤ a.size) : (a ++ c).extract i j = a.extract i j := by
  rw [ByteArray.extract_append, extract_none c _ _ (by omega), app_nil]
theorem extract_right (a c : ByteArray) (i j : Nat) : (a ++ c).extract (a.size + i) (a.size + j) = c.extract i j := by
  rw [ByteArray.extract_append, extract_none a _ _ (by omega), nil_app, Nat.add_sub_cancel_left, Nat.add_sub_cancel_left]
theorem extract_mid (a b c : ByteArray) : (a ++ (b ++ c)).extract a.size (a.size + b.size) = b := by
  have := extract_right a (b ++ c) 0 b.size
  rw [Nat.add_zero] at this
  rw [this, extract_left _ _ _ _ (Nat.le_refl _), extract_all _ _ (Nat.le_refl _)]
theorem extract_end (a c : ByteArray) : (a ++ c).extract a.size (a ++ c).size = c := by
  have := extract_right a c 0 c.size
  rw [Nat.add_zero] at this
  rw [ByteArray.size_append, this, extract_all _ _ (Nat.le_refl _)]
theorem tx_append (a b : List Int) : tx (a ++ b) = tx a ++ tx b := by unfold tx; rw [textNums_append, str_append]
theorem tx_word (l : List Int) (i : Nat) (h : i < l.length) (r : ByteArray) : (tx l ++ r).extract (4 * i) (4 * i + 4) = le (l.getD i 0) 4 := by
  have e : tx l ++ r = tx (l.take i) ++ (le (l.getD i 0) 4 ++ (tx (l.drop (i + 1)) ++ r)) := by
    conv => lhs; rw [← List.take_append_drop i l, drop_getD l i h]
    rw [tx_append, show tx (l.getD i 0 :: l.drop (i + 1)) = le (l.getD i 0) 4 ++ tx (l.drop (i + 1)) from by unfold tx le; rw [← str_append]; rfl]
    simp only [app_assoc]
  have h1 : (tx (l.take i)).size = 4 * i := by rw [tx_size, List.length_take]; omega
  have := extract_mid (tx (l.take i)) (le (l.getD i 0) 4) (tx (l.drop (i + 1)) ++ r)
  rw [h1, le_size] at this
  rw [e, this]
end Go.Proofs.Ytgjhabeoaejcdaa.Q
end
section
namespace Go.Proofs.Ytgjhabeoaejcdaa.P
open Go.RowKit Go.Proofs.YtgjhabeoaejcdaaW.PrintWords Go.Proofs.YtgjhabeoaejcdaaW.PrintLast Go.Proofs.YtgjhabeoaejcdaaW.PrintMore
def exe_Of_1.f (i n : Int) (s : ByteArray) : Option Int :=
  if 0 ≤ i ∧ 0 ≤ n ∧ n ≤ 4 ∧ i + n ≤ (s.size : Int) ∧ (s.size : Int) ≤ 4611686018427387904 then some (Q.ofB (bytesOf (s.extract i.toNat (i + n).toNat))) else none
set_option maxHeartbeats 1000000 in
theorem exe_Of_1.calls (i n : Int) (s : ByteArray) (r : Int) (w : World) {g : Nat} (hb : w.heap[g]? = some (.cells #[.string s] 9 (0, 0))) (h : exe_Of_1.f i n s = some r) :
    Calls Try.prog 35 #[.int .i64 i, .int .i64 n, .pointer (some ⟨g, 0, none⟩)] w fun e w' => e = .returned (.int .i64 r) ∧ Below w.heap.size w w' := by
  unfold exe_Of_1.f at h
  split at h
  · rename_i hc
    obtain ⟨h0, h1, h2, h3, h4⟩ := hc
    have hr := Option.some.inj h
    have hs : (s.extract i.toNat (i + n).toNat).size ≤ 8 := by rw [ByteArray.size_extract]; omega
    have hs4 : (bytesOf (s.extract i.toNat (i + n).toNat)).length ≤ 4 := by rw [bytesOf_length, ByteArray.size_extract]; omega
    have hrg := Q.ofB_range _ (Q.bytesOf_range (s.extract i.toNat (i + n).toNat))
    have hp : (256 : Int) ^ (bytesOf (s.extract i.toNat (i + n).toNat)).length ≤ 4294967296 := by
      generalize (bytesOf (s.extract i.toNat (i + n).toNat)).length = m at hs4
      obtain rfl | rfl | rfl | rfl | rfl : m = 0 ∨ m = 1 ∨ m = 2 ∨ m = 3 ∨ m = 4 := by omega
      all_goals decide
    rw [hr] at hrg
    have hw : wrap64 r = r := wrap64_id (by omega) (by omega)
    obtain ⟨k, hk⟩ := (Q.num_get _ hs).rounds
    rw [hr] at hk
    have HK := Aside0.mk hk
    have HW := Aside0.mk hw
    have hcell : w.cell? ⟨g, 0, none⟩ = some (.string s) := (blk_cell hb 0).trans rfl
    have hi : IntKind.i64.wrap (i + n) = i + n := by rw [i64_w]; exact wrap64_id (by omega) (by omega)
    have hi2 : wrap64 (i + n) = i + n := wrap64_id (by omega) (by omega)
    have b0 : 0 ≤ i + n := by omega
    have b1 : i ≤ i + n := by omega
    clear h hr hb hs hs4 hrg hp hk hw
    go_enter Try.func35, Try.ntmps35
    go_wp2_with fail
    refine (num_Get.calls k (s.extract i.toNat (i + n).toNat) r _ HK.out).mono ?_
    rintro e w1 ⟨rfl, hb1⟩
    have HB := Aside0.mk hb1
    clear hb1
    go_wp2
    go_ret
    exact ⟨congrArg (fun z => Ending.returned (Value.int .i64 z)) HW.out, HB.out⟩
  · exact absurd h (by simp)
end Go.Proofs.Ytgjhabeoaejcdaa.P
end
