-- Printed for this claim and put together by wip/tools/prune.py.
import Derived.Laws.Strings
import Derived.Test.YtgjhabeoaejcdaaMCuts2
import Derived.Test.YtgjhabeoaejcdaaMCuts5
import Derived.Test.YtgjhabeoaejcdaaMCuts6
import Derived.Test.YtgjhabeoaejcdaaMCuts7
import Derived.Test.YtgjhabeoaejcdaaMCuts8
import Derived.Test.YtgjhabeoaejcdaaMCuts9
import Derived.Test.YtgjhabeoaejcdaaMCuts10
set_option linter.unusedVariables false
set_option linter.unusedSimpArgs false
section
namespace Go.Proofs.Ytgjhabeoaejcdaa.Q
open Go.RowKit Go.Proofs.Ytgjhabeoaejcdaa.P Go.Proofs.YtgjhabeoaejcdaaW.PrintWords Go.Proofs.YtgjhabeoaejcdaaW.PrintLast Go.Proofs.YtgjhabeoaejcdaaW.PrintMore
theorem ref_pages_eq (n : Nat) (h : n ≤ 4611686018427387904) : hibernacleref12_pages.f n = some (pg n : Int) := by
  unfold hibernacleref12_pages.f pg
  rw [wrap64_id (n := (n : Int) + 127) (by omega) (by omega), tdiv_nn (by omega), wrap64_id (by omega) (by omega), Option.some.injEq]
  omega
theorem ref_check_last (l : List Int) (b : ByteArray) (c e : Int) (n : Nat) (t : Bool) (hn : n ≤ 1000) (hb : b.size ≤ 1000000000) (hc0 : 0 ≤ c) (hc1 : c ≤ 1000000000) (h : t = false) (r : Int)
    (hr : (if pg (4 * n) + pg (b.size + c.toNat) ≤ 14 then (0 : Int) else 1) = r) : Ev (fun k => hibernacleref12_Check.j0 k n t l b c e) r := by
  subst h
  refine Ev.step (f := fun _ => some r) (fun k => ?_) (Ev.now _)
  simp only [hibernacleref12_Check.j0]
  have e1 : 4 * (n : Int) = ((4 * n : Nat) : Int) := by omega
  have e2 : (b.size : Int) + c = ((b.size + c.toNat : Nat) : Int) := by omega
  have p1 : pg (4 * n) ≤ 1000 := by unfold pg; omega
  have p2 : pg (b.size + c.toNat) ≤ 100000000 := by unfold pg; omega
  rw [if_neg (by simp), wrap64_id (n := 4 * (n : Int)) (by omega) (by omega), e1, ref_pages_eq _ (by omega), Option.bind_some, wrap64_id (n := (b.size : Int) + c) (by omega) (by omega), e2, ref_pages_eq _ (by omega), Option.bind_some,
    wrap64_id (n := (pg (4 * n) : Int) + (pg (b.size + c.toNat) : Int)) (by omega) (by omega)]
  rw [← hr]
  by_cases h7 : pg (4 * n) + pg (b.size + c.toNat) ≤ 14
  · rw [if_neg (by omega), if_pos h7]
  · rw [if_pos (by omega), if_neg h7]
theorem ref_check_bad (l : List Int) (b : ByteArray) (c e : Int) (n : Int) : Ev (fun k => hibernacleref12_Check.j0 k n true l b c e) 1 :=
  Ev.step (f := fun _ => some 1) (fun k => by simp only [hibernacleref12_Check.j0]; rw [if_pos trivial]) (Ev.now _)
theorem ref_check (l : List Int) (b : ByteArray) (c e : Int) (hb : b.size ≤ 1000000000) (he0 : 0 ≤ e) (he1 : e < 4294967296) : Ev (fun k => hibernacleref12_Check.f k l b c e) (chk l b c e) := by
  unfold hibernacleref12_Check.f chk
  by_cases h1 : l.length < 1
  · rw [if_neg (by omega)]
    exact Ev.congr (fun k => if_pos (by omega)) (ref_check_bad ..)
  refine Ev.congr (fun k => if_neg (by omega)) ?_
  by_cases h2 : 448 < l.length
  · rw [if_neg (by omega)]
    exact Ev.congr (fun k => if_pos (by omega)) (ref_check_bad ..)
  refine Ev.congr (fun k => if_neg (by omega)) ?_
  by_cases h3 : c < 0
  · rw [if_neg (by omega)]
    exact Ev.congr (fun k => if_pos (by omega)) (ref_check_bad ..)
  refine Ev.congr (fun k => if_neg (by omega)) ?_
  by_cases h4 : 2048 < c
  · rw [if_neg (by omega)]
    exact Ev.congr (fun k => if_pos (by omega)) (ref_check_bad ..)
  refine Ev.congr (fun k => if_neg (by omega)) ?_
  by_cases h5 : 2048 < b.size
  · rw [if_neg (by unfold pg; omega)]
    exact Ev.congr (fun k => if_pos (by omega)) (ref_check_bad ..)
  refine Ev.congr (fun k => if_neg (by omega)) ?_
  by_cases h6 : e % 4 = 0
  · refine Ev.congr (fun k => if_pos (by rw [tmod_nn he0]; exact h6)) ?_
    rw [wrap64_id (n := e) (by omega) (by omega), wrap64_id (n := 4 * (l.length : Int)) (by omega) (by omega)]
    by_cases h7 : e < 4 * (l.length : Int)
    · refine ref_check_last l b c e l.length _ (by omega) hb (by omega) (by omega) (by simp; omega) _ ?_
      by_cases h8 : pg (4 * l.length) + pg (b.size + c.toNat) ≤ 14
      · rw [if_pos h8, if_pos ⟨by omega, by omega, by omega, by unfold pg at h8; omega, h6, h7, h8⟩]
      · rw [if_neg h8, if_neg (by omega)]
    · rw [if_neg (by omega), show decide (e ≥ 4 * (l.length : Int)) = true from decide_eq_true (by omega)]
      exact ref_check_bad ..
  · rw [if_neg (by omega)]
    exact Ev.congr (fun k => if_neg (by rw [tmod_nn he0]; exact h6)) (ref_check_bad ..)
end Go.Proofs.Ytgjhabeoaejcdaa.Q
end
section
namespace Go.Proofs.Ytgjhabeoaejcdaa.P
open Go.RowKit Go.Proofs.YtgjhabeoaejcdaaW.PrintWords Go.Proofs.YtgjhabeoaejcdaaW.PrintLast Go.Proofs.YtgjhabeoaejcdaaW.PrintMore
attribute [local go_sem] max2_int min2_int max_two min_two max_three min_three max_four min_four
set_option linter.unusedVariables false
set_option linter.unusedSimpArgs false
def hibernacleref12_zeros.l0 : Nat → Int → ByteArray → Int → Option (ByteArray)
  | 0, _, _, _ => none
  | k + 1, x0, x3, x4 => if x4 < x0 then (if x3.size + 1 ≤ 9223372036854775807 then (hibernacleref12_zeros.l0 k x0 (x3 ++ (⟨#[0]⟩ : ByteArray)) (wrap64 (x4 + 1))) else (none)) else (some x3)
def hibernacleref12_zeros.f (k : Nat) (a0 : Int) : Option (ByteArray) := hibernacleref12_zeros.l0 k a0 (⟨#[]⟩ : ByteArray) 0
theorem hibernacleref12_zeros.mono_l : ∀ k, (∀ y0 y1 y2, LeO (hibernacleref12_zeros.l0 k y0 y1 y2) (hibernacleref12_zeros.l0 (k + 1) y0 y1 y2))
  | 0 => fun _ _ _ r h => by simp [hibernacleref12_zeros.l0] at h
  | k + 1 => by
    have ih0 := hibernacleref12_zeros.mono_l k
    · intro y0 y1 y2
      unfold hibernacleref12_zeros.l0
      repeat' first
      | (with_reducible exact ih0 _ _ _)
      | (with_reducible exact LeO.refl _)
      | (with_reducible exact LeO.none _)
      | (with_reducible refine LeO.ite ?_ ?_)
      | (with_reducible refine LeO.bind ?_ (fun _ => ?_))
      | exact ih0 _ _ _
      | exact LeO.none _
      | refine LeO.ite ?_ ?_
      | refine LeO.bind ?_ (fun _ => ?_)
theorem hibernacleref12_zeros.mono : ∀ a0 k, LeO (hibernacleref12_zeros.f k a0) (hibernacleref12_zeros.f (k + 1) a0) := by
  intro a0 k
  have ih0 := hibernacleref12_zeros.mono_l k
  unfold hibernacleref12_zeros.f
  repeat' first
      | (with_reducible exact ih0 _ _ _)
      | (with_reducible exact LeO.refl _)
      | (with_reducible exact LeO.none _)
      | (with_reducible refine LeO.ite ?_ ?_)
      | (with_reducible refine LeO.bind ?_ (fun _ => ?_))
      | exact ih0 _ _ _
      | exact LeO.none _
      | refine LeO.ite ?_ ?_
      | refine LeO.bind ?_ (fun _ => ?_)
set_option maxHeartbeats 8000000 in
set_option maxRecDepth 100000 in
theorem hibernacleref12_zeros.calls (k : Nat) (a0 : Int) (r : ByteArray) (w : World) (h : hibernacleref12_zeros.f k a0 = some r) :
    Calls Try.prog 29 #[.int .i64 a0] w fun e w' => e = .returned (.string r) ∧ Drawn0 w w' := by
  have H : (hibernacleref12_zeros.l0 k a0 (⟨#[]⟩ : ByteArray) 0) = some r := h
  clear h
  have H' := Aside0.mk H
  clear H
  go_enter Try.func29, Try.ntmps29
  go_wp2
  go_loopg [3, 4] k (fun kq v3 v4 w' => ∃ (x3_1 : ByteArray) (x4_1 : Int), v3 = .string x3_1 ∧ v4 = .int .i64 x4_1 ∧ Aside0 (hibernacleref12_zeros.l0 kq a0 x3_1 x4_1 = some r) ∧ Aside0 (kq ≤ k) ∧ Drawn0 w w')
  case atStart => exact ⟨((⟨#[]⟩ : ByteArray)), (0), (by first | rfl | (simp; done) | (simp [*]; done)), (by first | rfl | (simp; done) | (simp [*]; done)), H', ⟨Nat.le_refl _⟩, by repeat (first | exact Drawn0.refl _ | apply Drawn0.step)⟩
  case round =>
    clear H'
    obtain ⟨x3_1, x4_1, rfl, rfl, HA, HK1, ⟨m1, rfl⟩⟩ := hrel
    cases gk with
    | zero => exact absurd HA.out (by simp [hibernacleref12_zeros.l0])
    | succ k1 =>
      have H := HA.out
      clear HA
      simp only [hibernacleref12_zeros.l0] at H
      by_cases c2 : x4_1 < a0
      · rw [if_pos c2] at H
        have c2b0 : decide (x4_1 < a0) = true := decide_eq_true c2
        clear c2
        by_cases c3 : x3_1.size + 1 ≤ 9223372036854775807
        · rw [if_pos c3] at H
          have c3b0 := eq_true c3
          have c3b1 : decide (x3_1.size + 1 ≤ 9223372036854775807) = true := decide_eq_true c3
          try have c3b2 : (9223372036854775807 < x3_1.size + 1) = False := eq_false (Nat.not_lt.2 c3)
          have H' := Aside0.mk H
          clear H
          go_wp2
          go_roundg k1
          case measure => have := HK1.out; omega
          case rel => exact ⟨(x3_1 ++ (⟨#[0]⟩ : ByteArray)), (wrap64 (x4_1 + 1)), (by first | rfl | (simp; done) | (simp [*]; done)), (by first | rfl | (simp; done) | (simp [*]; done)), H', ⟨by have := HK1.out; omega⟩, by repeat (first | exact Drawn0.refl _ | apply Drawn0.step)⟩
        · rw [if_neg c3] at H
          exact absurd H (by simp)
      · rw [if_neg c2] at H
        have c2b0 : decide (x4_1 < a0) = false := decide_eq_false c2
        clear c2
        obtain rfl := Option.some.inj H
        go_wp2
        go_ret
        exact ⟨by first | rfl | (simp; done) | (simp [*]; done), by repeat (first | exact Drawn0.refl _ | apply Drawn0.step)⟩
end Go.Proofs.Ytgjhabeoaejcdaa.P
end
section
namespace Go.Proofs.Ytgjhabeoaejcdaa.P
open Go.RowKit Go.Proofs.YtgjhabeoaejcdaaW.PrintWords Go.Proofs.YtgjhabeoaejcdaaW.PrintLast Go.Proofs.YtgjhabeoaejcdaaW.PrintMore
attribute [local go_sem] max2_int min2_int max_two min_two max_three min_three max_four min_four
set_option linter.unusedVariables false
set_option linter.unusedSimpArgs false
def hibernacleref01_Put.l0 : Nat → Int → Int → ByteArray → Int → Option (ByteArray)
  | 0, _, _, _, _ => none
  | k + 1, x0, x1, x5, x6 => if x6 < x1 then (if x6 < 8 then ((some (([(Int.tmod x0 256) % 256] : List Int) : List Int)).bind fun y162 => (if x5.size + (strOfNums y162).size ≤ 9223372036854775807 then (hibernacleref01_Put.l0 k (IntKind.u64.wrap (Int.tdiv x0 256)) x1 (x5 ++ (strOfNums y162)) (wrap64 (x6 + 1))) else (none))) else (some x5)) else (some x5)
def hibernacleref01_Put.f (k : Nat) (a0 : Int) (a1 : Int) : Option (ByteArray) := hibernacleref01_Put.l0 k a0 a1 (⟨#[]⟩ : ByteArray) 0
theorem hibernacleref01_Put.mono_l : ∀ k, (∀ y0 y1 y2 y3, LeO (hibernacleref01_Put.l0 k y0 y1 y2 y3) (hibernacleref01_Put.l0 (k + 1) y0 y1 y2 y3))
  | 0 => fun _ _ _ _ r h => by simp [hibernacleref01_Put.l0] at h
  | k + 1 => by
    have ih0 := hibernacleref01_Put.mono_l k
    · intro y0 y1 y2 y3
      unfold hibernacleref01_Put.l0
      repeat' first
      | (with_reducible exact ih0 _ _ _ _)
      | (with_reducible exact LeO.refl _)
      | (with_reducible exact LeO.none _)
      | (with_reducible refine LeO.ite ?_ ?_)
      | (with_reducible refine LeO.bind ?_ (fun _ => ?_))
      | exact ih0 _ _ _ _
      | exact LeO.none _
      | refine LeO.ite ?_ ?_
      | refine LeO.bind ?_ (fun _ => ?_)
theorem hibernacleref01_Put.mono : ∀ a0 a1 k, LeO (hibernacleref01_Put.f k a0 a1) (hibernacleref01_Put.f (k + 1) a0 a1) := by
  intro a0 a1 k
  have ih0 := hibernacleref01_Put.mono_l k
  unfold hibernacleref01_Put.f
  repeat' first
      | (with_reducible exact ih0 _ _ _ _)
      | (with_reducible exact LeO.refl _)
      | (with_reducible exact LeO.none _)
      | (with_reducible refine LeO.ite ?_ ?_)
      | (with_reducible refine LeO.bind ?_ (fun _ => ?_))
      | exact ih0 _ _ _ _
      | exact LeO.none _
      | refine LeO.ite ?_ ?_
      | refine LeO.bind ?_ (fun _ => ?_)
set_option maxHeartbeats 8000000 in
set_option maxRecDepth 100000 in
theorem hibernacleref01_Put.calls (k : Nat) (a0 : Int) (a1 : Int) (r : ByteArray) (w : World) (h : hibernacleref01_Put.f k a0 a1 = some r) :
    Calls Try.prog 33 #[.int .u64 a0, .int .i64 a1] w fun e w' => e = .returned (.string r) ∧ Below w.heap.size w w' := by
  have HB := Aside0.mk (Below.refl w.heap.size w)
  have H : (hibernacleref01_Put.l0 k a0 a1 (⟨#[]⟩ : ByteArray) 0) = some r := h
  clear h
  have H' := Aside0.mk H
  clear H
  go_enter Try.func33, Try.ntmps33
  go_wp2
  go_loopg [0, 5, 6] k (fun kq v0 v5 v6 w' => ∃ (x0_1 : Int) (x5_1 : ByteArray) (x6_1 : Int), v0 = .int .u64 x0_1 ∧ v5 = .string x5_1 ∧ v6 = .int .i64 x6_1 ∧ Aside0 (hibernacleref01_Put.l0 kq x0_1 a1 x5_1 x6_1 = some r) ∧ Aside0 (kq ≤ k) ∧ Aside0 (Below w.heap.size w w'))
  case atStart => exact ⟨(a0), ((⟨#[]⟩ : ByteArray)), (0), (by first | rfl | (simp; done) | (simp [*]; done)), (by first | rfl | (simp; done) | (simp [*]; done)), (by first | rfl | (simp; done) | (simp [*]; done)), H', ⟨Nat.le_refl _⟩, ⟨by repeat (first | (with_reducible first | exact HB.out | apply below_alloc | apply pw_below_drewN | apply below_drew1) | exact HB.out)⟩⟩
  case round =>
    clear H'
    try clear p2
    obtain ⟨x0_1, x5_1, x6_1, rfl, rfl, rfl, HA, HK1, HB⟩ := hrel
    cases gk with
    | zero => exact absurd HA.out (by simp [hibernacleref01_Put.l0])
    | succ k1 =>
      have H := HA.out
      clear HA
      simp only [hibernacleref01_Put.l0] at H
      by_cases c3 : x6_1 < a1
      · rw [if_pos c3] at H
        have c3b0 : decide (x6_1 < a1) = true := decide_eq_true c3
        clear c3
        by_cases c4 : x6_1 < 8
        · rw [if_pos c4] at H
          have c4b0 : decide (x6_1 < 8) = true := decide_eq_true c4
          clear c4
          obtain ⟨y162, hy162⟩ : ∃ y_ : List Int, y_ = (([(Int.tmod x0_1 256) % 256] : List Int)) := ⟨_, rfl⟩
          replace H : (if x5_1.size + (strOfNums y162).size ≤ 9223372036854775807 then (hibernacleref01_Put.l0 k1 (IntKind.u64.wrap (Int.tdiv x0_1 256)) a1 (x5_1 ++ (strOfNums y162)) (wrap64 (x6_1 + 1))) else (none)) = some r := by first | (rw [hy162]; with_reducible exact H) | (have H2_ := (Option.bind_some _ _).symm.trans H; rw [hy162]; with_reducible exact H2_) | (have H2_ := (Option.bind_some _ _).symm.trans H; with_reducible exact H2_) | with_reducible exact H | (rw [hy162]; exact H) | exact H
          have Ny162 := Aside0.mk hy162
          clear hy162
          by_cases c5 : x5_1.size + (strOfNums y162).size ≤ 9223372036854775807
          · rw [if_pos c5] at H
            have c5b0 := eq_true c5
            have c5b1 : decide (x5_1.size + (strOfNums y162).size ≤ 9223372036854775807) = true := decide_eq_true c5
            try have c5b2 : (9223372036854775807 < x5_1.size + (strOfNums y162).size) = False := eq_false (Nat.not_lt.2 c5)
            have H' := Aside0.mk H
            clear H
            go_wp2_with (first | ((with_reducible refine gate_dst (N := 20) rfl ?_); refine Kd.R_lit (Kd.int .u8) _ 5 ?hg (N := 20) ?hd (xs := ([(Int.tmod x0_1 256) % 256] : List Int)) (inner := [.int .u8 ((Int.tmod x0_1 256) % 256)]) (ok := fun _ => True) (okp := fun _ => True) ?hr ?hp (fun _ hk => hk) trivial (Below.refl _ _) (Nat.le_refl _) (by simp) ?_; (case hd => rfl); (case hg => rfl); (case hr => first | (go_simp; done) | (go_simp; rfl)); (case hp => exact (Reps.one (show Kd.M (Kd.int .u8) _ _ _ ((Int.tmod x0_1 256) % 256) [.int .u8 ((Int.tmod x0_1 256) % 256)] from rfl) (Reps.none _ _))); intro v163 w6 ho7 hb hg_ hnew_; clear hg_ hnew_; (first | rw [← Ny162.out] at ho7 | (simp only [Int.reduceToNat] at ho7; rw [← Ny162.out] at ho7)); have n0_ := Aside0.mk (Kd.R_lower ho7 (below_size (by repeat (first | (with_reducible first | exact HB.out | apply below_alloc | apply pw_below_drewN | apply below_drew1) | exact HB.out)))); have n1_ := Aside0.mk (below_step (by repeat (first | (with_reducible first | exact HB.out | apply below_alloc | apply pw_below_drewN | apply below_drew1) | exact HB.out)) hb); clear HB; have HO164 := n0_; have HB := n1_; clear n0_ n1_; clear hb ho7; have hcv8 := own_string (P := Try.prog) Try.underlying74 Try.underlying5 Try.underlying9 (Kd.own_of_R HO164.out)))
            go_roundg k1
            case measure => have := HK1.out; omega
            case rel => exact ⟨(IntKind.u64.wrap (Int.tdiv x0_1 256)), (x5_1 ++ (strOfNums y162)), (wrap64 (x6_1 + 1)), (by first | rfl | (simp; done) | (simp [*]; done)), (by first | rfl | (simp; done) | (simp [*]; done)), (by first | rfl | (simp; done) | (simp [*]; done)), H', ⟨by have := HK1.out; omega⟩, ⟨by repeat (first | (with_reducible first | exact HB.out | apply below_alloc | apply pw_below_drewN | apply below_drew1) | exact HB.out)⟩⟩
          · rw [if_neg c5] at H
            exact absurd H (by simp)
        · rw [if_neg c4] at H
          have c4b0 : decide (x6_1 < 8) = false := decide_eq_false c4
          clear c4
          obtain rfl := Option.some.inj H
          go_wp2
          go_ret
          exact ⟨by first | rfl | (simp [errW_none, errW_some] <;> rfl) | (simp [*, errW_none, errW_some] <;> rfl), by repeat (first | (with_reducible first | exact HB.out | apply below_alloc | apply pw_below_drewN | apply below_drew1) | exact HB.out)⟩
      · rw [if_neg c3] at H
        have c3b0 : decide (x6_1 < a1) = false := decide_eq_false c3
        clear c3
        obtain rfl := Option.some.inj H
        go_wp2
        go_ret
        exact ⟨by first | rfl | (simp [errW_none, errW_some] <;> rfl) | (simp [*, errW_none, errW_some] <;> rfl), by repeat (first | (with_reducible first | exact HB.out | apply below_alloc | apply pw_below_drewN | apply below_drew1) | exact HB.out)⟩
end Go.Proofs.Ytgjhabeoaejcdaa.P
end
section
namespace Go.Proofs.Ytgjhabeoaejcdaa.P
open Go.RowKit Go.Proofs.YtgjhabeoaejcdaaW.PrintWords Go.Proofs.YtgjhabeoaejcdaaW.PrintLast Go.Proofs.YtgjhabeoaejcdaaW.PrintMore
attribute [local go_sem] max2_int min2_int max_two min_two max_three min_three max_four min_four
set_option linter.unusedVariables false
set_option linter.unusedSimpArgs false
def hibernacleref12_text.l0 : Nat → ByteArray → Int → Int → List Int → ByteArray → Int → Int → Option (ByteArray)
  | 0, _, _, _, _, _, _, _ => none
  | k + 1, x3, x7, x8, x166000, x166001, x166002, x166003 => if x8 < x7 then (if 0 ≤ x8 then (if x8 < (x166000.length : Int) then ((hibernacleref01_Put.f k (IntKind.u64.wrap (rd x166000 x8)) 4).bind fun t167 => (if x3.size + t167.size ≤ 9223372036854775807 then (hibernacleref12_text.l0 k (x3 ++ t167) x7 (wrap64 (x8 + 1)) x166000 x166001 x166002 x166003) else (none))) else (none)) else (none)) else (some x3)
def hibernacleref12_text.f (k : Nat) (l0_0 : List Int) (a0_1 : ByteArray) (a0_2 : Int) (a0_3 : Int) : Option (ByteArray) := hibernacleref12_text.l0 k (⟨#[]⟩ : ByteArray) (l0_0.length : Int) 0 l0_0 a0_1 a0_2 a0_3
theorem hibernacleref12_text.mono_l : ∀ k, (∀ y0 y1 y2 y3 y4 y5 y6, LeO (hibernacleref12_text.l0 k y0 y1 y2 y3 y4 y5 y6) (hibernacleref12_text.l0 (k + 1) y0 y1 y2 y3 y4 y5 y6))
  | 0 => fun _ _ _ _ _ _ _ r h => by simp [hibernacleref12_text.l0] at h
  | k + 1 => by
    have ih0 := hibernacleref12_text.mono_l k
    · intro y0 y1 y2 y3 y4 y5 y6
      unfold hibernacleref12_text.l0
      repeat' first
      | (with_reducible exact ih0 _ _ _ _ _ _ _)
      | (with_reducible exact hibernacleref01_Put.mono _ _ _)
      | (with_reducible exact LeO.refl _)
      | (with_reducible exact LeO.none _)
      | (with_reducible refine LeO.ite ?_ ?_)
      | (with_reducible refine LeO.bind ?_ (fun _ => ?_))
      | exact ih0 _ _ _ _ _ _ _
      | exact hibernacleref01_Put.mono _ _ _
      | exact LeO.none _
      | refine LeO.ite ?_ ?_
      | refine LeO.bind ?_ (fun _ => ?_)
theorem hibernacleref12_text.mono : ∀ a0 a1 a2 a3 k, LeO (hibernacleref12_text.f k a0 a1 a2 a3) (hibernacleref12_text.f (k + 1) a0 a1 a2 a3) := by
  intro a0 a1 a2 a3 k
  have ih0 := hibernacleref12_text.mono_l k
  unfold hibernacleref12_text.f
  repeat' first
      | (with_reducible exact ih0 _ _ _ _ _ _ _)
      | (with_reducible exact hibernacleref01_Put.mono _ _ _)
      | (with_reducible exact LeO.refl _)
      | (with_reducible exact LeO.none _)
      | (with_reducible refine LeO.ite ?_ ?_)
      | (with_reducible refine LeO.bind ?_ (fun _ => ?_))
      | exact ih0 _ _ _ _ _ _ _
      | exact hibernacleref01_Put.mono _ _ _
      | exact LeO.none _
      | refine LeO.ite ?_ ?_
      | refine LeO.bind ?_ (fun _ => ?_)
set_option maxHeartbeats 8000000 in
set_option maxRecDepth 100000 in
theorem hibernacleref12_text.calls (k : Nat) (A0_0 : Option Addr) (c0_0 : Nat) (l0_0 : List Int) (a0_1 : ByteArray) (a0_2 : Int) (a0_3 : Int) (r : ByteArray) (w : World) (hr0_0 : Kd.C (Kd.int .u32) w A0_0 l0_0.length l0_0) (hc0_0 : l0_0.length ≤ c0_0) (h : hibernacleref12_text.f k l0_0 a0_1 a0_2 a0_3 = some r) :
    Calls Try.prog 28 #[.agg #[.slice A0_0 l0_0.length c0_0, .string a0_1, .int .i64 a0_2, .int .u32 a0_3]] w fun e w' => e = .returned (.string r) ∧ Below w.heap.size w w' := by
  have hu25 := Try.underlying25
  have HR0_0 := Aside0.mk hr0_0
  have HC0_0 := Aside0.mk hc0_0
  clear hr0_0 hc0_0
  have HB := Aside0.mk (Below.refl w.heap.size w)
  have H : (hibernacleref12_text.l0 k (⟨#[]⟩ : ByteArray) (l0_0.length : Int) 0 l0_0 a0_1 a0_2 a0_3) = some r := h
  clear h
  have H' := Aside0.mk H
  clear H
  go_enter Try.func28, Try.ntmps28
  go_wp2_with (first | ((with_reducible refine gate_dst (N := 1) rfl ?_); refine box_event ?hg (N := 1) ?hd (cs := #[.slice A0_0 l0_0.length c0_0, .string a0_1, .int .i64 a0_2, .int .u32 a0_3]) (t := 25) ?hr ?_; (case hd => rfl); (case hg => rfl); (case hr => first | (go_simp; done) | (go_simp; rfl)); intro gb165 hg w2 hbox hb; have n0_ := Aside0.mk (below_step (by repeat (first | (with_reducible first | exact HB.out | apply below_alloc | apply pw_below_drewN | apply below_drew1) | exact HB.out)) hb); have n1_ := Aside0.mk (hbox); have n2_ := Aside0.mk ((by rw [hg]; exact (below_size (by repeat (first | (with_reducible first | exact HB.out | apply below_alloc | apply pw_below_drewN | apply below_drew1) | exact HB.out))) : w.heap.size ≤ gb165)); have n3_ := Aside0.mk ((by rw [hg]; exact (below_size (by repeat (first | (with_reducible first | exact HB.out | apply below_alloc | apply pw_below_drewN | apply below_drew1) | exact HB.out))) : w.heap.size ≤ gb165)); clear HB; have HB := n0_; have BK165 := n1_; have GW165 := n2_; have GE165 := n3_; clear n0_ n1_ n2_ n3_; clear hb hbox hg; have hcz3_0 : w2.cell? ⟨gb165, 0, none⟩ = some (.slice A0_0 l0_0.length c0_0) := (blk_cell BK165.out 0).trans rfl; have hcz3_1 : w2.cell? ⟨gb165, 1, none⟩ = some (.string a0_1) := (blk_cell BK165.out 1).trans rfl; have hcz3_2 : w2.cell? ⟨gb165, 2, none⟩ = some (.int .i64 a0_2) := (blk_cell BK165.out 2).trans rfl; have hcz3_3 : w2.cell? ⟨gb165, 3, none⟩ = some (.int .u32 a0_3) := (blk_cell BK165.out 3).trans rfl; have hfz3_0 := blk_frozen BK165.out 0; have hfz3_1 := blk_frozen BK165.out 1; have hfz3_2 := blk_frozen BK165.out 2; have hfz3_3 := blk_frozen BK165.out 3))
  go_loopg [3, 8] k (fun kq v3 v8 w' => ∃ (x3_1 : ByteArray) (x8_1 : Int), v3 = .string x3_1 ∧ v8 = .int .i64 x8_1 ∧ Aside0 (hibernacleref12_text.l0 kq x3_1 (l0_0.length : Int) x8_1 l0_0 a0_1 a0_2 a0_3 = some r) ∧ Aside0 (kq ≤ k) ∧ Aside0 (w'.heap[gb165]? = some (.cells #[(.slice A0_0 l0_0.length c0_0), .string a0_1, .int .i64 a0_2, .int .u32 a0_3] 25 (0, 0))) ∧ Aside0 (Below w.heap.size w w'))
  case atStart => exact ⟨((⟨#[]⟩ : ByteArray)), (0), (by first | rfl | (simp; done) | (simp [*]; done)), (by first | rfl | (simp; done) | (simp [*]; done)), H', ⟨Nat.le_refl _⟩, ⟨by (with_reducible repeat (first | refine blk_drewN ?_ _ | refine blk_drew ?_ | refine blk_alloc ?_ _)); exact BK165.out⟩, ⟨by repeat (first | (with_reducible first | exact HB.out | apply below_alloc | apply pw_below_drewN | apply below_drew1 | refine below_set ?_ GE165.out) | exact HB.out)⟩⟩
  case round =>
    clear H'
    try clear c2
    try clear p2
    try clear hcz3_0
    try clear hcz3_1
    try clear hcz3_2
    try clear hcz3_3
    try clear hfz3_0
    try clear hfz3_1
    try clear hfz3_2
    try clear hfz3_3
    obtain ⟨x3_1, x8_1, rfl, rfl, HA, HK1, BK165, HB⟩ := hrel
    cases gk with
    | zero => exact absurd HA.out (by simp [hibernacleref12_text.l0])
    | succ k1 =>
      have H := HA.out
      clear HA
      simp only [hibernacleref12_text.l0] at H
      by_cases c4 : x8_1 < (l0_0.length : Int)
      · rw [if_pos c4] at H
        have c4b0 : decide (x8_1 < (l0_0.length : Int)) = true := decide_eq_true c4
        clear c4
        by_cases c5 : 0 ≤ x8_1
        · rw [if_pos c5] at H
          have c5b0 : decide (0 ≤ x8_1) = true := decide_eq_true c5
          clear c5
          by_cases c6 : x8_1 < (l0_0.length : Int)
          · rw [if_pos c6] at H
            have c6b0 : decide (x8_1 < (l0_0.length : Int)) = true := decide_eq_true c6
            clear c6
            replace H := Option.bind_eq_some_iff.mp H
            obtain ⟨t167, A70, H⟩ := H
            replace H : (if x3_1.size + t167.size ≤ 9223372036854775807 then (hibernacleref12_text.l0 k1 (x3_1 ++ t167) (l0_0.length : Int) (wrap64 (x8_1 + 1)) l0_0 a0_1 a0_2 a0_3) else (none)) = some r := H
            have A7 := Aside0.mk A70
            clear A70
            by_cases c8 : x3_1.size + t167.size ≤ 9223372036854775807
            · rw [if_pos c8] at H
              have c8b0 := eq_true c8
              have c8b1 : decide (x3_1.size + t167.size ≤ 9223372036854775807) = true := decide_eq_true c8
              try have c8b2 : (9223372036854775807 < x3_1.size + t167.size) = False := eq_false (Nat.not_lt.2 c8)
              have H' := Aside0.mk H
              clear H
              have hcz9_0 : wr.cell? ⟨gb165, 0, none⟩ = some (.slice A0_0 l0_0.length c0_0) := (blk_cell BK165.out 0).trans rfl
              have hcz9_1 : wr.cell? ⟨gb165, 1, none⟩ = some (.string a0_1) := (blk_cell BK165.out 1).trans rfl
              have hcz9_2 : wr.cell? ⟨gb165, 2, none⟩ = some (.int .i64 a0_2) := (blk_cell BK165.out 2).trans rfl
              have hcz9_3 : wr.cell? ⟨gb165, 3, none⟩ = some (.int .u32 a0_3) := (blk_cell BK165.out 3).trans rfl
              have hfz9_0 := blk_frozen BK165.out 0
              have hfz9_1 := blk_frozen BK165.out 1
              have hfz9_2 := blk_frozen BK165.out 2
              have hfz9_3 := blk_frozen BK165.out 3
              have p166 : 0 ≤ (x8_1 : Int) := of_decide_eq_true (by first | (with_reducible assumption) | assumption)
              have q166 : x8_1 < (l0_0.length : Int) := of_decide_eq_true (by first | (with_reducible assumption) | assumption)
              obtain ⟨ad166, e166, hx166_0⟩ := Kd.at_int HR0_0.out x8_1 p166 q166
              cases e166
              replace hx166_0 := (HB.out.cell (World.block_lt_of_cell? w _ hx166_0)).trans hx166_0
              replace p166 := eq_true p166
              replace q166 := eq_true q166
              go_wp2_with (first | ((with_reducible refine gate_callee (f := 33) rfl ?_); refine goesL_ (some 18) rfl rfl Try.func33 (by kernel_rfl) rfl #[.int .u64 (IntKind.u64.wrap (rd l0_0 x8_1)), .int .i64 4] rfl (by (try simp only [List.map_toArray, List.map_cons, List.map_nil]); first | done | rfl | (simp only [List.length_drop, List.length_take]; rfl)) ?_; (with_reducible refine (hibernacleref01_Put.calls k1 (IntKind.u64.wrap (rd l0_0 x8_1)) 4 t167 _ A7.out).mono ?_); rintro e w10 ⟨rfl, hb⟩; refine ⟨_, rfl, ?_⟩; have n0_ := Aside0.mk (blk_below (g := gb165) (o := .cells #[.slice (some ad166) l0_0.length c0_0, .string a0_1, .int .i64 a0_2, .int .u32 a0_3] 25 (0, 0)) (by (with_reducible repeat (first | refine blk_drewN ?_ _ | refine blk_drew ?_ | refine blk_alloc ?_ _)); exact BK165.out) hb); have n1_ := Aside0.mk (below_step (by repeat (first | (with_reducible first | exact HB.out | apply below_alloc | apply pw_below_drewN | apply below_drew1 | refine below_set ?_ GE165.out) | exact HB.out)) hb); clear BK165; clear HB; have BK165 := n0_; have HB := n1_; clear n0_ n1_; (try clear hb); (try clear hb2); (try clear hk); (try clear hi)))
              go_roundg k1
              case measure => have := HK1.out; omega
              case rel => exact ⟨(x3_1 ++ t167), (wrap64 (x8_1 + 1)), (by first | rfl | (simp; done) | (simp [*]; done)), (by first | rfl | (simp; done) | (simp [*]; done)), H', ⟨by have := HK1.out; omega⟩, ⟨by (with_reducible repeat (first | refine blk_drewN ?_ _ | refine blk_drew ?_ | refine blk_alloc ?_ _)); exact BK165.out⟩, ⟨by repeat (first | (with_reducible first | exact HB.out | apply below_alloc | apply pw_below_drewN | apply below_drew1 | refine below_set ?_ GE165.out) | exact HB.out)⟩⟩
            · rw [if_neg c8] at H
              exact absurd H (by simp)
          · rw [if_neg c6] at H
            exact absurd H (by simp)
        · rw [if_neg c5] at H
          exact absurd H (by simp)
      · rw [if_neg c4] at H
        have c4b0 : decide (x8_1 < (l0_0.length : Int)) = false := decide_eq_false c4
        clear c4
        obtain rfl := Option.some.inj H
        go_wp2
        go_ret
        exact ⟨by first | rfl | (simp [errW_none, errW_some] <;> rfl) | (simp [*, errW_none, errW_some] <;> rfl), by repeat (first | (with_reducible first | exact HB.out | apply below_alloc | apply pw_below_drewN | apply below_drew1 | refine below_set ?_ GE165.out) | exact HB.out)⟩
end Go.Proofs.Ytgjhabeoaejcdaa.P
end
section
namespace Go.Proofs.Ytgjhabeoaejcdaa.Q
open Go.RowKit Go.Proofs.Ytgjhabeoaejcdaa.P Go.Proofs.YtgjhabeoaejcdaaW.PrintWords Go.Proofs.YtgjhabeoaejcdaaW.PrintLast Go.Proofs.YtgjhabeoaejcdaaW.PrintMore
end Go.Proofs.Ytgjhabeoaejcdaa.Q
end
section
namespace Go.Proofs.Ytgjhabeoaejcdaa.Q
open Go.RowKit Go.Proofs.Ytgjhabeoaejcdaa.P Go.Proofs.YtgjhabeoaejcdaaW.PrintWords Go.Proofs.YtgjhabeoaejcdaaW.PrintLast Go.Proofs.YtgjhabeoaejcdaaW.PrintMore
def num (s : ByteArray) (i n : Nat) : Int := ofB (bytesOf (s.extract i (i + n)))
theorem num_range (s : ByteArray) (i n : Nat) (hn : n ≤ 4) : 0 ≤ num s i n ∧ num s i n < 4294967296 := by
  have h := ofB_range _ (bytesOf_range (s.extract i (i + n)))
  have hl : (bytesOf (s.extract i (i + n))).length ≤ 4 := by rw [bytesOf_length, ByteArray.size_extract]; omega
  have hp : (256 : Int) ^ (bytesOf (s.extract i (i + n))).length ≤ 4294967296 := by
    generalize (bytesOf (s.extract i (i + n))).length = m at hl
    obtain rfl | rfl | rfl | rfl | rfl : m = 0 ∨ m = 1 ∨ m = 2 ∨ m = 3 ∨ m = 4 := by omega
    all_goals decide
  unfold num
  omega
theorem num_range2 (s : ByteArray) (i : Nat) : 0 ≤ num s i 2 ∧ num s i 2 < 65536 := by
  have h := ofB_range _ (bytesOf_range (s.extract i (i + 2)))
  have hl : (bytesOf (s.extract i (i + 2))).length ≤ 2 := by rw [bytesOf_length, ByteArray.size_extract]; omega
  have hp : (256 : Int) ^ (bytesOf (s.extract i (i + 2))).length ≤ 65536 := by
    generalize (bytesOf (s.extract i (i + 2))).length = m at hl
    obtain rfl | rfl | rfl : m = 0 ∨ m = 1 ∨ m = 2 := by omega
    all_goals decide
  unfold num
  omega
theorem of1_eq (s : ByteArray) (hs : s.size ≤ 1000000) (i n : Nat) (hn : n ≤ 4) (h : i + n ≤ s.size) : exe_Of_1.f i n s = some (num s i n) := by
  unfold exe_Of_1.f
  rw [if_pos ⟨by omega, by omega, by omega, by omega, by omega⟩]
  rfl
def marked (s : ByteArray) : Prop := s.extract 0 (min s.size 4) = (⟨#[104, 105, 98, 120]⟩ : ByteArray).extract 0 (min s.size 4)
instance (s : ByteArray) : Decidable (marked s) := by unfold marked; infer_instance
def wordsOf (s : ByteArray) (n : Nat) : List Int := (List.range n).map fun i => num s (14 + 4 * i) 4
def ofFile (s : ByteArray) : List Int × ByteArray × Int × Int × Int :=
  if marked s then
    if s.size < 14 then ([], ⟨#[]⟩, 0, 0, 4)
    else if (s.size : Int) < 14 + 4 * num s 8 2 + num s 10 2 then ([], ⟨#[]⟩, 0, 0, 4)
    else if (s.size : Int) > 14 + 4 * num s 8 2 + num s 10 2 then ([], ⟨#[]⟩, 0, 0, 3)
    else if chk (wordsOf s (num s 8 2).toNat) (s.extract (14 + 4 * (num s 8 2).toNat) s.size) (num s 12 2) (num s 4 4) = 0 then
      (wordsOf s (num s 8 2).toNat, s.extract (14 + 4 * (num s 8 2).toNat) s.size, num s 12 2, num s 4 4, 0)
    else ([], ⟨#[]⟩, 0, 0, 3)
  else ([], ⟨#[]⟩, 0, 0, 3)
theorem u32_same {x : Int} (h : 0 ≤ x ∧ x < 4294967296) : IntKind.u32.wrap x = x := u32_id h.1 h.2
theorem toList_iff (a b : ByteArray) : a.toList = b.toList ↔ a = b := by
  constructor
  · intro h
    rw [ByteArray.toList_eq, ByteArray.toList_eq] at h
    exact ByteArray.ext (Array.toList_inj.mp h)
  · intro h; rw [h]
theorem words_snoc (s : ByteArray) (i : Nat) : wordsOf s (i + 1) = wordsOf s i ++ [num s (14 + 4 * i) 4] := by
  unfold wordsOf; rw [List.range_succ, List.map_append]; rfl
theorem words_length (s : ByteArray) (i : Nat) : (wordsOf s i).length = i := by simp [wordsOf]
theorem exe_of_loop (s : ByteArray) (hs : s.size ≤ 100000) (n : Nat) (hn : 14 + 4 * n ≤ s.size) (x : Int) (d : ByteArray) (hd : d.size ≤ 100000) (c e : Int) (he : 0 ≤ e) (r : List Int × ByteArray × Int × Int × Int)
    (hr : (if (s.size : Int) > x then (([] : List Int), (⟨#[]⟩ : ByteArray), (0 : Int), (0 : Int), (3 : Int)) else if chk (wordsOf s n) d c e = 0 then (wordsOf s n, d, c, e, 0) else ([], ⟨#[]⟩, 0, 0, 3)) = r) :
    ∀ (m i : Nat), i + m = n → Ev (fun k => exe_Of.l0 k x n i s (wordsOf s i) d c e) r := by
  intro m
  induction m with
  | zero =>
    intro i hi
    obtain rfl : i = n := by omega
    refine Ev.step (f := fun _ => some r) (fun k => ?_) (Ev.now _)
    simp only [exe_Of.l0]
    rw [if_neg (by omega), exe_check _ d c e (by omega) he, Option.bind_some, ← hr]
    split
    · rfl
    · split <;> rfl
  | succ m ih =>
    intro i hi
    have e1 : wrap64 ((i : Int) + 1) = ((i + 1 : Nat) : Int) := by rw [wrap64_id (by omega) (by omega)]; omega
    have e4 : wrap64 (4 * (i : Int)) = ((4 * i : Nat) : Int) := by rw [wrap64_id (by omega) (by omega)]; omega
    have e5 : wrap64 (14 + ((4 * i : Nat) : Int)) = ((14 + 4 * i : Nat) : Int) := by rw [wrap64_id (by omega) (by omega)]; omega
    have ho := of1_eq s (by omega) (14 + 4 * i) 4 (by omega) (by omega)
    rw [show ((4 : Nat) : Int) = 4 from rfl] at ho
    refine Ev.step (f := fun k => exe_Of.l0 k x n ((i + 1 : Nat) : Int) s (wordsOf s (i + 1)) d c e) (fun k => ?_) (ih (i + 1) (by omega))
    simp only [exe_Of.l0, e1, e4, e5, ho, Option.bind_some]
    rw [if_pos (by omega), if_pos (by rw [words_length]; omega), u32_same (num_range s _ 4 (by omega)), ← words_snoc]
theorem exe_of (s : ByteArray) (hs : s.size ≤ 100000) : Ev (fun k => exe_Of.f k s) (ofFile s) := by
  have em : mn (s.size : Int) 4 = ((min s.size 4 : Nat) : Int) := by unfold mn; split <;> omega
  unfold exe_Of.f
  simp only [em, Int.toNat_natCast, toList_iff]
  refine Ev.congr (fun k => if_pos (by omega)) ?_
  refine Ev.congr (fun k => if_pos (by omega)) ?_
  refine Ev.congr (fun k => if_pos (by omega)) ?_
  unfold ofFile
  by_cases hm : marked s
  · rw [if_pos hm]
    refine Ev.congr (fun k => if_pos hm) ?_
    by_cases h14 : s.size < 14
    · rw [if_pos h14]
      exact Ev.congr (fun k => if_pos (by omega)) (Ev.now _)
    · rw [if_neg h14]
      refine Ev.congr (fun k => if_neg (by omega)) ?_
      have o8 := of1_eq s (by omega) 8 2 (by omega) (by omega)
      have o10 := of1_eq s (by omega) 10 2 (by omega) (by omega)
      have o4 := of1_eq s (by omega) 4 4 (by omega) (by omega)
      have o12 := of1_eq s (by omega) 12 2 (by omega) (by omega)
      simp only [show ((8 : Nat) : Int) = 8 from rfl, show ((2 : Nat) : Int) = 2 from rfl, show ((10 : Nat) : Int) = 10 from rfl, show ((4 : Nat) : Int) = 4 from rfl, show ((12 : Nat) : Int) = 12 from rfl] at o8 o10 o4 o12
      simp only [o8, o10, o4, o12, Option.bind_some]
      have r8 := num_range2 s 8
      have r10 := num_range2 s 10
      have r12 := num_range2 s 12
      have r4 := num_range s 4 4 (by omega)
      obtain ⟨n, hn⟩ := Int.eq_ofNat_of_zero_le r8.1
      obtain ⟨m, hm2⟩ := Int.eq_ofNat_of_zero_le r10.1
      rw [hn] at r8
      rw [hm2] at r10
      simp only [hn, hm2]
      clear o8 o10 o4 o12 r12 hn hm2
      have e1 : wrap64 (4 * (n : Int)) = ((4 * n : Nat) : Int) := by rw [wrap64_id (by omega) (by omega)]; omega
      have e2 : wrap64 (14 + ((4 * n : Nat) : Int)) = ((14 + 4 * n : Nat) : Int) := by rw [wrap64_id (by omega) (by omega)]; omega
      have e3 : wrap64 (((14 + 4 * n : Nat) : Int) + (m : Int)) = ((14 + 4 * n + m : Nat) : Int) := by rw [wrap64_id (by omega) (by omega)]; omega
      have e4 : wrap64 (((14 + 4 * n + m : Nat) : Int) - (m : Int)) = ((14 + 4 * n : Nat) : Int) := by rw [wrap64_id (by omega) (by omega)]; omega
      simp only [e1, e2, e3, e4, Int.toNat_natCast]
      by_cases hlt : (s.size : Int) < 14 + 4 * (n : Int) + (m : Int)
      · rw [if_pos hlt]
        exact Ev.congr (fun k => if_pos (by omega)) (Ev.now _)
      · rw [if_neg hlt]
        refine Ev.congr (fun k => if_neg (by omega)) ?_
        refine Ev.congr (fun k => if_pos (by omega)) ?_
        refine Ev.congr (fun k => if_pos (by omega)) ?_
        refine Ev.congr (fun k => if_pos (by omega)) ?_
        have hc : strings_Clone.f (s.extract (14 + 4 * n) (14 + 4 * n + m)) = some (s.extract (14 + 4 * n) (14 + 4 * n + m)) := by
          unfold strings_Clone.f; rw [if_pos (by rw [ByteArray.size_extract]; omega)]
        simp only [hc, Option.bind_some, u32_same r4]
        refine exe_of_loop s hs n (by omega) _ _ (by rw [ByteArray.size_extract]; omega) _ _ r4.1 _ ?_ n 0 (Nat.zero_add _)
        by_cases hgt : (s.size : Int) > 14 + 4 * (n : Int) + (m : Int)
        · rw [if_pos hgt, if_pos (by omega)]
        · rw [if_neg hgt, if_neg (by omega), show 14 + 4 * n + m = s.size by omega]
  · rw [if_neg hm]
    exact Ev.congr (fun k => if_neg hm) (Ev.now _)
end Go.Proofs.Ytgjhabeoaejcdaa.Q
end
section
namespace Go.Proofs.Ytgjhabeoaejcdaa.Q
open Go.RowKit Go.Proofs.Ytgjhabeoaejcdaa.P Go.Proofs.YtgjhabeoaejcdaaW.PrintWords Go.Proofs.YtgjhabeoaejcdaaW.PrintLast Go.Proofs.YtgjhabeoaejcdaaW.PrintMore
theorem same_loop (l : List Int) (hl : l.length ≤ 1000000) (b : ByteArray) (c e : Int) : ∀ (d i : Nat), i + d = l.length → Ev (fun k => hibernacleref12_Same.l0 k (l.length : Int) i l b c e l b c e) true := by
  intro d
  induction d with
  | zero =>
    intro i hi
    refine Ev.step (f := fun _ => some true) (fun k => ?_) (Ev.now _)
    simp only [hibernacleref12_Same.l0]; rw [if_neg (by omega)]
  | succ d ih =>
    intro i hi
    have e1 : wrap64 ((i : Int) + 1) = ((i + 1 : Nat) : Int) := by rw [wrap64_id (by omega) (by omega)]; omega
    refine Ev.step (f := fun k => hibernacleref12_Same.l0 k (l.length : Int) ((i + 1 : Nat) : Int) l b c e l b c e) (fun k => ?_) (ih (i + 1) (by omega))
    simp only [hibernacleref12_Same.l0]
    rw [if_pos (by omega), if_pos (by omega), if_pos (by omega), if_pos (by omega), if_pos trivial, e1]
theorem same_refl (l : List Int) (hl : l.length ≤ 1000000) (b : ByteArray) (c e : Int) : Ev (fun k => hibernacleref12_Same.f k l b c e l b c e) true := by
  unfold hibernacleref12_Same.f
  simp only [if_true]
  refine Ev.step (f := fun k => hibernacleref12_Same.l0 k (l.length : Int) 0 l b c e l b c e) (fun k => ?_) (same_loop l hl b c e l.length 0 (Nat.zero_add _))
  simp only [hibernacleref12_Same.j0]
  rw [if_neg (by simp)]
end Go.Proofs.Ytgjhabeoaejcdaa.Q
end
section
namespace Go.Proofs.Ytgjhabeoaejcdaa.Q
open Go.RowKit Go.Proofs.Ytgjhabeoaejcdaa.P Go.Proofs.YtgjhabeoaejcdaaW.PrintWords Go.Proofs.YtgjhabeoaejcdaaW.PrintLast Go.Proofs.YtgjhabeoaejcdaaW.PrintMore
theorem num_mid (a : ByteArray) (x : Int) (i n : Nat) (c : ByteArray) (h : a.size = i) : num (a ++ (le x n ++ c)) i n = ofB (leNums x n) := by
  subst h
  unfold num
  have := extract_mid a (le x n) c
  rw [le_size] at this
  rw [this, bytesOf_le]
theorem file_marked (l : List Int) (b : ByteArray) (c e : Int) (m : Nat) (hm : m ≤ 4) : (fileOf l b c e).extract 0 m = (⟨#[104, 105, 98, 120]⟩ : ByteArray).extract 0 m := by
  unfold fileOf headOf
  simp only [app_assoc]
  exact extract_left _ _ _ _ (by rw [hibx_size]; omega)
theorem file_nums (l : List Int) (b : ByteArray) (c e : Int) : num (fileOf l b c e) 4 4 = e % 4294967296 ∧ num (fileOf l b c e) 8 2 = (l.length : Int) % 65536 ∧
    num (fileOf l b c e) 10 2 = (b.size : Int) % 65536 ∧ num (fileOf l b c e) 12 2 = c % 65536 := by
  refine ⟨?_, ?_, ?_, ?_⟩
  · have := num_mid (⟨#[104, 105, 98, 120]⟩ : ByteArray) e 4 4 (le l.length 2 ++ (le b.size 2 ++ (le c 2 ++ (tx l ++ b)))) rfl
    rw [ofB_le4] at this
    rw [← this]; unfold fileOf headOf; simp only [app_assoc]
  · have := num_mid ((⟨#[104, 105, 98, 120]⟩ : ByteArray) ++ le e 4) (l.length : Int) 8 2 (le b.size 2 ++ (le c 2 ++ (tx l ++ b))) (by rw [ByteArray.size_append, le_size]; rfl)
    rw [ofB_le2] at this
    rw [← this]; unfold fileOf headOf; simp only [app_assoc]
  · have := num_mid ((⟨#[104, 105, 98, 120]⟩ : ByteArray) ++ le e 4 ++ le l.length 2) (b.size : Int) 10 2 (le c 2 ++ (tx l ++ b)) (by rw [ByteArray.size_append, ByteArray.size_append, le_size, le_size]; rfl)
    rw [ofB_le2] at this
    rw [← this]; unfold fileOf headOf; simp only [app_assoc]
  · have := num_mid ((⟨#[104, 105, 98, 120]⟩ : ByteArray) ++ le e 4 ++ le l.length 2 ++ le b.size 2) c 12 2 (tx l ++ b) (by rw [ByteArray.size_append, ByteArray.size_append, ByteArray.size_append, le_size, le_size, le_size]; rfl)
    rw [ofB_le2] at this
    rw [← this]; unfold fileOf headOf; simp only [app_assoc]
theorem cut_file (l : List Int) (b : ByteArray) (c e : Int) (hc : chk l b c e = 0) (m : Nat) (hm : m < (fileOf l b c e).size) : ofFile ((fileOf l b c e).extract 0 m) = ([], ⟨#[]⟩, 0, 0, 4) := by
  have H := chk_bounds hc
  have hp := H.2.2.2.2.2.2
  have hb2 : b.size ≤ 1792 := by unfold pg at hp; omega
  obtain ⟨_, n8, n10, _⟩ := file_nums l b c e
  have hs := file_size l b c e
  have hsz : ((fileOf l b c e).extract 0 m).size = m := by rw [ByteArray.size_extract]; omega
  rw [Int.emod_eq_of_lt (by omega) (by omega)] at n8 n10
  unfold ofFile
  have hmk : marked ((fileOf l b c e).extract 0 m) := by
    unfold marked
    rw [hsz, ByteArray.extract_extract, Nat.zero_add, Nat.zero_add, Nat.min_eq_left (by omega)]
    exact file_marked l b c e _ (by omega)
  rw [if_pos hmk, hsz]
  by_cases h14 : m < 14
  · rw [if_pos h14]
  · have e8 : num ((fileOf l b c e).extract 0 m) 8 2 = num (fileOf l b c e) 8 2 := by
      unfold num
      rw [ByteArray.extract_extract, Nat.zero_add, Nat.zero_add, Nat.min_eq_left (by omega)]
    have e10 : num ((fileOf l b c e).extract 0 m) 10 2 = num (fileOf l b c e) 10 2 := by
      unfold num
      rw [ByteArray.extract_extract, Nat.zero_add, Nat.zero_add, Nat.min_eq_left (by omega)]
    rw [if_neg h14, e8, e10, n8, n10, if_pos (by omega)]
theorem long_file (l : List Int) (b : ByteArray) (c e : Int) (hc : chk l b c e = 0) : ofFile (fileOf l b c e ++ (⟨#[120]⟩ : ByteArray)) = ([], ⟨#[]⟩, 0, 0, 3) := by
  have H := chk_bounds hc
  have hp := H.2.2.2.2.2.2
  have hb2 : b.size ≤ 1792 := by unfold pg at hp; omega
  obtain ⟨_, n8, n10, _⟩ := file_nums l b c e
  have hs := file_size l b c e
  have hsz : (fileOf l b c e ++ (⟨#[120]⟩ : ByteArray)).size = (fileOf l b c e).size + 1 := by rw [ByteArray.size_append]; rfl
  rw [Int.emod_eq_of_lt (by omega) (by omega)] at n8 n10
  unfold ofFile
  have hmk : marked (fileOf l b c e ++ (⟨#[120]⟩ : ByteArray)) := by
    unfold marked
    rw [extract_left _ _ _ _ (by omega)]
    exact file_marked l b c e _ (by omega)
  have e8 : num (fileOf l b c e ++ (⟨#[120]⟩ : ByteArray)) 8 2 = num (fileOf l b c e) 8 2 := by unfold num; rw [extract_left _ _ _ _ (by omega)]
  have e10 : num (fileOf l b c e ++ (⟨#[120]⟩ : ByteArray)) 10 2 = num (fileOf l b c e) 10 2 := by unfold num; rw [extract_left _ _ _ _ (by omega)]
  rw [if_pos hmk, hsz, if_neg (by omega), e8, e10, n8, n10, if_neg (by omega), if_pos (by omega)]
end Go.Proofs.Ytgjhabeoaejcdaa.Q
end
section
namespace Go.Proofs.Ytgjhabeoaejcdaa.Q
open Go.RowKit Go.Proofs.Ytgjhabeoaejcdaa.P Go.Proofs.YtgjhabeoaejcdaaW.PrintWords Go.Proofs.YtgjhabeoaejcdaaW.PrintLast Go.Proofs.YtgjhabeoaejcdaaW.PrintMore
theorem ExeCuts_ev (l : List Int) (b : ByteArray) (c e : Int) (a : Int) (ha0 : 0 ≤ a) (ha1 : a < 65536) (he0 : 0 ≤ e) (he1 : e < 4294967296) : Ev (fun k => hibernaclelaw12_ExeCuts.f k l b c e a) true := by
  have off : Ev (fun k => hibernaclelaw12_ExeCuts.j0 k a true l b c e) true :=
    Ev.step (f := fun k => (hibernaclelaw12_awake.f k).bind fun t => some t) (fun k => by simp only [hibernaclelaw12_ExeCuts.j0]; rw [if_pos trivial]) (Ev.bind awake_ev (Ev.now _))
  unfold hibernaclelaw12_ExeCuts.f
  simp only [great_eq, Option.bind_some]
  by_cases hg : l.length > 600 ∨ b.size > 3000
  · exact Ev.congr (fun k => if_pos (decide_eq_true hg)) off
  · refine Ev.congr (fun k => if_neg (by simpa using hg)) ?_
    refine Ev.bind (ref_check l b c e (by omega) he0 he1) ?_
    by_cases hc : chk l b c e = 0
    · rw [hc]
      have H := chk_bounds hc
      have hp := H.2.2.2.2.2.2
      have hb2 : b.size ≤ 1792 := by unfold pg at hp; omega
      have hy := exe_bytes l b c e (by omega) he0 he1
      rw [if_pos hc] at hy
      have hs := file_size l b c e
      have hpos : (0 : Int) < ((fileOf l b c e).size : Int) := by omega
      have hw : wrap64 a = a := wrap64_id (by omega) (by omega)
      have hm0 := Int.emod_nonneg a (b := ((fileOf l b c e).size : Int)) (by omega)
      have hm1 := Int.emod_lt_of_pos a hpos
      obtain ⟨m, hm⟩ := Int.eq_ofNat_of_zero_le hm0
      rw [hm] at hm1
      have o1 := exe_of ((fileOf l b c e).extract 0 m) (by rw [ByteArray.size_extract]; omega)
      rw [cut_file l b c e hc m (by omega)] at o1
      have o2 := exe_of (fileOf l b c e ++ (⟨#[120]⟩ : ByteArray)) (by rw [ByteArray.size_append, show (⟨#[120]⟩ : ByteArray).size = 1 from rfl]; omega)
      rw [long_file l b c e hc] at o2
      have sm := same_refl [] (by simp) ⟨#[]⟩ 0 0
      refine Ev.step (f := fun k => hibernaclelaw12_ExeCuts.j1 k a (fileOf l b c e) (((fileOf l b c e).size : Int) == 0)) (fun k => ?_) ?_
      · simp only [hibernaclelaw12_ExeCuts.j0, hy, Option.bind_some]
        rw [if_neg (by simp), if_pos trivial]
      rw [beq_eq_false_iff_ne.2 (by omega : ((fileOf l b c e).size : Int) ≠ 0)]
      refine Ev.step (f := fun k => (exe_Of.f k ((fileOf l b c e).extract 0 m)).bind fun bt303 => ((exe_Of.f k (fileOf l b c e ++ (⟨#[120]⟩ : ByteArray))).bind fun bt311 => (if bt303.2.2.2.2 = 4 then (if bt311.2.2.2.2 = 3 then ((hibernacleref12_Same.f k bt303.1 bt303.2.1 bt303.2.2.1 bt303.2.2.2.1 ([] : List Int) (⟨#[]⟩ : ByteArray) 0 0).bind fun t319 => (if t319 = true then ((hibernacleref12_Same.f k bt311.1 bt311.2.1 bt311.2.2.1 bt311.2.2.2.1 ([] : List Int) (⟨#[]⟩ : ByteArray) 0 0).bind fun t320 => (if t320 = true then ((hibernaclelaw12_awake.f k).bind fun t321 => (some t321)) else (some false))) else (some false))) else (some false)) else (some false)))) (fun k => ?_) ?_
      · have q1 : (fileOf l b c e).size + 1 ≤ 9223372036854775807 := by omega
        simp only [hibernaclelaw12_ExeCuts.j1, hw, tmod_nn ha0, hm, Int.toNat_natCast, if_pos q1]
        rw [if_neg (by simp), if_neg (by omega), if_pos (by omega), if_pos (by omega)]
      · refine Ev.bind o1 (Ev.bind o2 ?_)
        refine Ev.congr (fun k => if_pos rfl) (Ev.congr (fun k => if_pos rfl) (Ev.bind sm (Ev.congr (fun k => if_pos rfl) (Ev.bind sm (Ev.congr (fun k => if_pos rfl) (Ev.bind awake_ev (Ev.now _)))))))
    · have : chk l b c e = 1 := by unfold chk at *; split <;> simp_all
      rw [this]
      exact off
end Go.Proofs.Ytgjhabeoaejcdaa.Q
end
