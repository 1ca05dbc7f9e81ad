-- Printed for this claim and put together by wip/tools/prune.py.
import Derived.Test.YtgjhabeoaejcdaaMCuts2
import Derived.Test.YtgjhabeoaejcdaaMCuts3
import Derived.Test.YtgjhabeoaejcdaaMCuts4
import Derived.Test.YtgjhabeoaejcdaaMCuts6
set_option linter.unusedVariables false
set_option linter.unusedSimpArgs false
section
namespace Go.Proofs.Ytgjhabeoaejcdaa.P
section
abbrev zb1_Px22 : Array Bool := #[false, false, false, false, false, false, false, false, false, false, false, false, false, false, false]
abbrev zb2_Px22 : Array Bool := #[true, false, false, false, false, false, false, false, false, false, false, false, false, false, false]
abbrev zb3_Px22 : Array Bool := #[true, false, false, true, false, false, false, false, false, false, false, false, false, false, false]
abbrev zb4_Px22 : Array Bool := #[true, false, false, true, false, false, true, false, false, false, false, false, false, false, false]
abbrev zb5_Px22 : Array Bool := #[true, false, false, true, false, false, true, true, false, false, false, false, false, false, false]
abbrev zb6_Px22 : Array Bool := #[true, false, false, true, false, false, true, true, true, false, false, false, false, false, false]
abbrev zb7_Px22 : Array Bool := #[true, false, false, true, false, false, true, true, true, true, false, false, false, false, false]
abbrev zb8_Px22 : Array Bool := #[true, false, false, true, false, true, true, true, true, true, false, false, false, false, false]
abbrev zb9_Px22 : Array Bool := #[true, false, false, true, false, true, true, true, true, true, true, false, false, false, false]
abbrev zb10_Px22 : Array Bool := #[true, true, true, true, true, true, true, true, true, true, true, true, true, true, false]
abbrev zb11_Px22 : Array Bool := #[true, true, false, true, false, true, true, true, true, true, true, false, false, false, false]
abbrev zb12_Px22 : Array Bool := #[true, false, false, true, false, true, true, true, true, true, true, false, false, true, false]
abbrev zb13_Px22 : Array Bool := #[true, true, true, true, false, true, true, true, true, true, true, false, false, false, false]
abbrev zb14_Px22 : Array Bool := #[true, true, true, true, true, true, true, true, true, true, true, false, false, false, false]
abbrev zb15_Px22 : Array Bool := #[true, true, true, true, false, true, true, true, true, true, true, false, false, true, false]
abbrev zb16_Px22 : Array Bool := #[true, true, true, true, true, true, true, true, true, true, true, true, false, false, false]
abbrev zb17_Px22 : Array Bool := #[true, true, true, true, true, true, true, true, true, true, true, false, false, true, false]
abbrev zb18_Px22 : Array Bool := #[true, true, true, true, true, true, true, true, true, true, true, true, true, false, false]
abbrev zb19_Px22 : Array Bool := #[true, true, true, true, true, true, true, true, true, true, true, true, false, true, false]
abbrev zb20_Px22 : Array Bool := #[true, true, false, true, false, true, true, true, true, true, true, false, false, true, false]
abbrev zb21_Px22 : Array Bool := #[true, true, true, true, true, true, true, true, true, true, true, true, true, true, true]
abbrev zb22_Px22 : Array Bool := #[false, false, false, false, false, false, false, false, false, false, false, false]
abbrev zb23_Px22 : Array Bool := #[true, false, false, false, false, false, false, false, false, false, false, false]
abbrev zb24_Px22 : Array Bool := #[true, false, true, false, false, false, false, false, false, false, false, false]
abbrev zb25_Px22 : Array Bool := #[true, false, true, true, false, false, false, false, false, false, false, false]
abbrev zb26_Px22 : Array Bool := #[true, false, true, true, true, false, false, false, false, false, false, false]
abbrev zb27_Px22 : Array Bool := #[true, false, true, true, true, true, false, false, false, false, false, false]
abbrev zb28_Px22 : Array Bool := #[true, true, true, true, true, true, false, false, false, false, false, false]
abbrev zb29_Px22 : Array Bool := #[true, true, true, true, true, true, true, false, false, false, false, false]
abbrev zb30_Px22 : Array Bool := #[true, true, true, true, true, true, true, true, false, false, false, false]
abbrev zb31_Px22 : Array Bool := #[true, true, true, true, true, true, true, true, true, false, false, false]
abbrev zb32_Px22 : Array Bool := #[true, true, true, true, true, true, true, true, true, true, false, false]
abbrev zb33_Px22 : Array Bool := #[true, true, true, true, true, true, true, true, true, true, true, false]
abbrev zb34_Px22 : Array Bool := #[true, true, true, true, true, true, true, true, true, true, true, true]
open Go.RowKit Go.Proofs.YtgjhabeoaejcdaaW.PrintWords Go.Proofs.YtgjhabeoaejcdaaW.PrintLast Go.Proofs.YtgjhabeoaejcdaaW.PrintMore
attribute [local go_sem] max2_int min2_int max_two min_two max_three min_three max_four min_four
set_option linter.unusedVariables false
set_option linter.unusedSimpArgs false
def exe_Of.l0 : Nat → Int → Int → Int → ByteArray → List Int → ByteArray → Int → Int → Option (List Int × ByteArray × Int × Int × Int)
  | 0, _, _, _, _, _, _, _, _ => none
  | k + 1, x8, x53, x54, x227000, x234000, x234001, x234002, x234003 => if x54 < x53 then ((exe_Of_1.f (wrap64 (14 + (wrap64 (4 * x54)))) 4 x227000).bind fun t234 => (if x234000.length < 35184372088832 then (exe_Of.l0 k x8 x53 (wrap64 (x54 + 1)) x227000 (x234000 ++ [IntKind.u32.wrap (t234)]) x234001 x234002 x234003) else (none))) else (if (x227000.size : Int) > x8 then (some (([] : List Int), (⟨#[]⟩ : ByteArray), 0, 0, 3)) else ((exe_Check.f x234000 x234001 x234002 x234003).bind fun t238 => (if t238 = 0 then (some (x234000, x234001, x234002, x234003, 0)) else (some (([] : List Int), (⟨#[]⟩ : ByteArray), 0, 0, 3)))))
def exe_Of.f (k : Nat) (a0 : ByteArray) : Option (List Int × ByteArray × Int × Int × Int) := if 0 ≤ (mn (a0.size : Int) 4) then (if (mn (a0.size : Int) 4) ≤ (a0.size : Int) then (if (mn (a0.size : Int) 4) ≤ 4 then (if (a0.extract 0 ((mn (a0.size : Int) 4) : Int).toNat).toList = ((⟨#[104, 105, 98, 120]⟩ : ByteArray).extract 0 ((mn (a0.size : Int) 4) : Int).toNat).toList then (if (a0.size : Int) < 14 then (some (([] : List Int), (⟨#[]⟩ : ByteArray), 0, 0, 4)) else ((exe_Of_1.f 8 2 a0).bind fun t228 => ((exe_Of_1.f 10 2 a0).bind fun t229 => (if (a0.size : Int) < (wrap64 ((wrap64 (14 + (wrap64 (4 * t228)))) + t229)) then (some (([] : List Int), (⟨#[]⟩ : ByteArray), 0, 0, 4)) else ((exe_Of_1.f 4 4 a0).bind fun t230 => ((exe_Of_1.f 12 2 a0).bind fun t231 => (if 0 ≤ (wrap64 ((wrap64 ((wrap64 (14 + (wrap64 (4 * t228)))) + t229)) - t229)) then (if (wrap64 ((wrap64 ((wrap64 (14 + (wrap64 (4 * t228)))) + t229)) - t229)) ≤ (wrap64 ((wrap64 (14 + (wrap64 (4 * t228)))) + t229)) then (if (wrap64 ((wrap64 (14 + (wrap64 (4 * t228)))) + t229)) ≤ (a0.size : Int) then ((strings_Clone.f (a0.extract ((wrap64 ((wrap64 ((wrap64 (14 + (wrap64 (4 * t228)))) + t229)) - t229)) : Int).toNat ((wrap64 ((wrap64 (14 + (wrap64 (4 * t228)))) + t229)) : Int).toNat)).bind fun t232 => (exe_Of.l0 k (wrap64 ((wrap64 (14 + (wrap64 (4 * t228)))) + t229)) t228 0 a0 ([] : List Int) t232 t231 (IntKind.u32.wrap (t230)))) else (none)) else (none)) else (none)))))))) else (some (([] : List Int), (⟨#[]⟩ : ByteArray), 0, 0, 3))) else (none)) else (none)) else (none)
theorem exe_Of.mono_l : ∀ k, (∀ y0 y1 y2 y3 y4 y5 y6 y7, LeO (exe_Of.l0 k y0 y1 y2 y3 y4 y5 y6 y7) (exe_Of.l0 (k + 1) y0 y1 y2 y3 y4 y5 y6 y7))
  | 0 => fun _ _ _ _ _ _ _ _ r h => by simp [exe_Of.l0] at h
  | k + 1 => by
    have ih0 := exe_Of.mono_l k
    · intro y0 y1 y2 y3 y4 y5 y6 y7
      unfold exe_Of.l0
      repeat' first
      | (with_reducible exact ih0 _ _ _ _ _ _ _ _)
      | (with_reducible exact LeO.refl _)
      | (with_reducible exact LeO.none _)
      | (with_reducible refine LeO.ite ?_ ?_)
      | (with_reducible refine LeO.bind ?_ (fun _ => ?_))
      | exact ih0 _ _ _ _ _ _ _ _
      | exact LeO.none _
      | refine LeO.ite ?_ ?_
      | refine LeO.bind ?_ (fun _ => ?_)
theorem exe_Of.mono : ∀ a0 k, LeO (exe_Of.f k a0) (exe_Of.f (k + 1) a0) := by
  intro a0 k
  have ih0 := exe_Of.mono_l k
  unfold exe_Of.f
  repeat' first
      | (with_reducible exact ih0 _ _ _ _ _ _ _ _)
      | (with_reducible exact LeO.refl _)
      | (with_reducible exact LeO.none _)
      | (with_reducible refine LeO.ite ?_ ?_)
      | (with_reducible refine LeO.bind ?_ (fun _ => ?_))
      | exact ih0 _ _ _ _ _ _ _ _
      | exact LeO.none _
      | refine LeO.ite ?_ ?_
      | refine LeO.bind ?_ (fun _ => ?_)
def exe_Of.T11 : Bool × List (List Nat × List Nat) := (true, [([], []), ([0], [0]), ([1], [1]), ([], []), ([3, 1], [3]), ([], []), ([], []), ([], []), ([6, 7], [6, 7]), ([], []), ([5, 8, 9], [5, 8, 9]), ([10, 4], [10]), ([2, 4, 11], [2, 4, 11]), ([], []), ([13, 12, 11, 0, 1, 2, 3, 4, 5, 6, 7, 8, 9, 10, 11, 12, 13], [12, 13])])
def exe_Of.B11 : List Nat := [0, 1, 3, 0, 11, 0, 0, 0, 192, 0, 992, 2043, 4095, 0, 16383]
theorem exe_Of.tab11 : rtab .any (opsOf Try.f18 11) = exe_Of.T11 := by kernel_rfl
theorem exe_Of.bits11 : waitsOk exe_Of.T11.2 exe_Of.B11 = true := by kernel_rfl
def exe_Of.T15 : Bool × List (List Nat × List Nat) := (true, [([], []), ([0], [0]), ([], []), ([], []), ([3], [3]), ([4], [4]), ([2, 5], [2, 5]), ([6], [6]), ([7], [7]), ([1, 8, 6], [1, 8]), ([0, 1, 2, 3, 4, 5, 6, 7, 8, 9], []), ([10, 9, 9, 0, 1, 2, 3, 4, 5, 6, 7, 8, 9], [9, 10])])
def exe_Of.B15 : List Nat := [0, 1, 0, 0, 8, 24, 60, 124, 252, 511, 1023, 2047]
theorem exe_Of.tab15 : rtab .any (opsOf Try.f18 15) = exe_Of.T15 := by kernel_rfl
theorem exe_Of.bits15 : waitsOk exe_Of.T15.2 exe_Of.B15 = true := by kernel_rfl
set_option maxHeartbeats 8000000 in
set_option maxRecDepth 100000 in
theorem exe_Of.calls (k : Nat) (a0 : ByteArray) (r1 : List Int) (r2 : ByteArray) (r3 : Int) (r4 : Int) (r5 : Int) (w : World) (h : exe_Of.f k a0 = some (r1, r2, r3, r4, r5)) :
    Calls Try.prog 18 #[.string a0] w fun e w' => ∃ v0_ : Value, e = .returned (.tuple #[.agg #[v0_, .string r2, .int .i64 r3, .int .u32 r4], .int .i64 r5]) ∧ Kd.R (Kd.int .u32) 23 w' w.heap.size (fun _ => True) v0_ r1 ∧ Below w.heap.size w w' := by
  have hu25 := Try.underlying25
  have hmf : ∀ (fn : Fn) (first cap : Array Value) (w : World), (Instr.makeFunc fn first cap).run Try.prog w = .ok (.func fn first cap) w := fun _ _ _ _ => rfl
  have HB := Aside0.mk (Below.refl w.heap.size w)
  have H : (if 0 ≤ (mn (a0.size : Int) 4) then (if (mn (a0.size : Int) 4) ≤ (a0.size : Int) then (if (mn (a0.size : Int) 4) ≤ 4 then (if (a0.extract 0 ((mn (a0.size : Int) 4) : Int).toNat).toList = ((⟨#[104, 105, 98, 120]⟩ : ByteArray).extract 0 ((mn (a0.size : Int) 4) : Int).toNat).toList then (if (a0.size : Int) < 14 then (some (([] : List Int), (⟨#[]⟩ : ByteArray), 0, 0, 4)) else ((exe_Of_1.f 8 2 a0).bind fun t228 => ((exe_Of_1.f 10 2 a0).bind fun t229 => (if (a0.size : Int) < (wrap64 ((wrap64 (14 + (wrap64 (4 * t228)))) + t229)) then (some (([] : List Int), (⟨#[]⟩ : ByteArray), 0, 0, 4)) else ((exe_Of_1.f 4 4 a0).bind fun t230 => ((exe_Of_1.f 12 2 a0).bind fun t231 => (if 0 ≤ (wrap64 ((wrap64 ((wrap64 (14 + (wrap64 (4 * t228)))) + t229)) - t229)) then (if (wrap64 ((wrap64 ((wrap64 (14 + (wrap64 (4 * t228)))) + t229)) - t229)) ≤ (wrap64 ((wrap64 (14 + (wrap64 (4 * t228)))) + t229)) then (if (wrap64 ((wrap64 (14 + (wrap64 (4 * t228)))) + t229)) ≤ (a0.size : Int) then ((strings_Clone.f (a0.extract ((wrap64 ((wrap64 ((wrap64 (14 + (wrap64 (4 * t228)))) + t229)) - t229)) : Int).toNat ((wrap64 ((wrap64 (14 + (wrap64 (4 * t228)))) + t229)) : Int).toNat)).bind fun t232 => (exe_Of.l0 k (wrap64 ((wrap64 (14 + (wrap64 (4 * t228)))) + t229)) t228 0 a0 ([] : List Int) t232 t231 (IntKind.u32.wrap (t230)))) else (none)) else (none)) else (none)))))))) else (some (([] : List Int), (⟨#[]⟩ : ByteArray), 0, 0, 3))) else (none)) else (none)) else (none)) = some (r1, r2, r3, r4, r5) := h
  clear h
  obtain ⟨ji2, hji2⟩ : ∃ j_ : Int, (mn (a0.size : Int) 4) = j_ := ⟨_, rfl⟩
  replace H : (if 0 ≤ (ji2) then (if (ji2) ≤ (a0.size : Int) then (if (ji2) ≤ 4 then (if (a0.extract 0 ((ji2) : Int).toNat).toList = ((⟨#[104, 105, 98, 120]⟩ : ByteArray).extract 0 ((ji2) : Int).toNat).toList then (if (a0.size : Int) < 14 then (some (([] : List Int), (⟨#[]⟩ : ByteArray), 0, 0, 4)) else ((exe_Of_1.f 8 2 a0).bind fun t228 => ((exe_Of_1.f 10 2 a0).bind fun t229 => (if (a0.size : Int) < (wrap64 ((wrap64 (14 + (wrap64 (4 * t228)))) + t229)) then (some (([] : List Int), (⟨#[]⟩ : ByteArray), 0, 0, 4)) else ((exe_Of_1.f 4 4 a0).bind fun t230 => ((exe_Of_1.f 12 2 a0).bind fun t231 => (if 0 ≤ (wrap64 ((wrap64 ((wrap64 (14 + (wrap64 (4 * t228)))) + t229)) - t229)) then (if (wrap64 ((wrap64 ((wrap64 (14 + (wrap64 (4 * t228)))) + t229)) - t229)) ≤ (wrap64 ((wrap64 (14 + (wrap64 (4 * t228)))) + t229)) then (if (wrap64 ((wrap64 (14 + (wrap64 (4 * t228)))) + t229)) ≤ (a0.size : Int) then ((strings_Clone.f (a0.extract ((wrap64 ((wrap64 ((wrap64 (14 + (wrap64 (4 * t228)))) + t229)) - t229)) : Int).toNat ((wrap64 ((wrap64 (14 + (wrap64 (4 * t228)))) + t229)) : Int).toNat)).bind fun t232 => (exe_Of.l0 k (wrap64 ((wrap64 (14 + (wrap64 (4 * t228)))) + t229)) t228 0 a0 ([] : List Int) t232 t231 (IntKind.u32.wrap (t230)))) else (none)) else (none)) else (none)))))))) else (some (([] : List Int), (⟨#[]⟩ : ByteArray), 0, 0, 3))) else (none)) else (none)) else (none)) = some (r1, r2, r3, r4, r5) := by first | (rw [hji2] at H; exact H) | (simp only [hji2] at H ⊢; exact H)
  (try (have hji2h : ji2 ≤ 4 := by (rw [← hji2]; unfold mn; (repeat' split) <;> omega)))
  (try (have hji2g : ji2 ≤ 64 := by omega))
  (try (have hji2l : 0 ≤ ji2 := by (rw [← hji2]; unfold mn; (repeat' split) <;> omega)))
  (try (have hji2m : 0 ≤ ji2 := by omega))
  have hji2_ : (if 4 < (a0.size : Int) then 4 else (a0.size : Int)) = ji2 := hji2
  by_cases c3 : 0 ≤ (ji2)
  · rw [if_pos c3] at H
    have c3b0 := eq_true c3
    have c3b1 : decide (0 ≤ (ji2)) = true := decide_eq_true c3
    clear c3
    by_cases c4 : (ji2) ≤ (a0.size : Int)
    · rw [if_pos c4] at H
      have c4b0 := eq_true c4
      have c4b1 : decide ((ji2) ≤ (a0.size : Int)) = true := decide_eq_true c4
      clear c4
      have c5b0 := eq_true (of_decide_eq_true (by first | (with_reducible assumption) | assumption) : 0 ≤ (ji2))
      by_cases c6 : (ji2) ≤ 4
      · rw [if_pos c6] at H
        have c6b0 := eq_true c6
        have c6b1 : decide ((ji2) ≤ 4) = true := decide_eq_true c6
        clear c6
        by_cases c7 : (a0.extract 0 ((ji2) : Int).toNat).toList = ((⟨#[104, 105, 98, 120]⟩ : ByteArray).extract 0 ((ji2) : Int).toNat).toList
        · rw [if_pos c7] at H
          have c7b0 : ((a0.extract 0 ((ji2) : Int).toNat).toList == ((⟨#[104, 105, 98, 120]⟩ : ByteArray).extract 0 ((ji2) : Int).toNat).toList) = true := beq_iff_eq.mpr c7
          have c7b1 : ((a0.extract 0 ((ji2) : Int).toNat).toList != ((⟨#[104, 105, 98, 120]⟩ : ByteArray).extract 0 ((ji2) : Int).toNat).toList) = false := bne_eq_false_iff_eq.mpr c7
          clear c7
          by_cases c8 : (a0.size : Int) < 14
          · rw [if_pos c8] at H
            have c8b0 : decide ((a0.size : Int) < 14) = true := decide_eq_true c8
            have c8b1 : decide (a0.size < 14) = true := decide_eq_true (by omega)
            clear c8
            simp only [Option.some.injEq, Prod.mk.injEq] at H
            obtain ⟨rfl, rfl, rfl, rfl, rfl⟩ := H
            go_enter Try.func18, Try.ntmps18
            try go_wp2_with (first | ((with_reducible refine gate_dst (N := 1) rfl ?_); refine box_event ?hg (N := 1) ?hd (cs := #[.string a0]) (t := 9) ?hr ?_; (case hd => rfl); (case hg => rfl); (case hr => first | (go_simp; done) | (go_simp; rfl)); intro gb226 hg w9 hbox hb; have n0_ := Aside0.mk (below_step (by repeat (first | (with_reducible first | exact HB.out | apply below_alloc | apply pw_below_drewN | apply below_drew1) | exact HB.out)) hb); have n1_ := Aside0.mk (hbox); have n2_ := Aside0.mk ((by rw [hg]; exact (below_size (by repeat (first | (with_reducible first | exact HB.out | apply below_alloc | apply pw_below_drewN | apply below_drew1) | exact HB.out))) : w.heap.size ≤ gb226)); have n3_ := Aside0.mk ((by rw [hg]; exact (below_size (by repeat (first | (with_reducible first | exact HB.out | apply below_alloc | apply pw_below_drewN | apply below_drew1) | exact HB.out))) : w.heap.size ≤ gb226)); clear HB; have HB := n0_; have BK226 := n1_; have GW226 := n2_; have GE226 := n3_; clear n0_ n1_ n2_ n3_; clear hb hbox hg) | ((with_reducible refine gate_dst (N := 2) rfl ?_); refine box_event ?hg (N := 2) ?hd (cs := #[.slice none 0 0, .string (⟨#[]⟩ : ByteArray), .int .i64 0, .int .u32 0]) (t := 25) ?hr ?_; (case hd => rfl); (case hg => rfl); (case hr => first | (go_simp; done) | (go_simp; rfl)); intro gb227 hg w10 hbox hb; have n0_ := Aside0.mk (blk_below (g := gb226) (o := .cells #[.string a0] 9 (0, 0)) (by (with_reducible repeat (first | refine blk_drewN ?_ _ | refine blk_drew ?_ | refine blk_alloc ?_ _)); exact BK226.out) hb); have n1_ := Aside0.mk (below_step (by repeat (first | (with_reducible first | exact HB.out | apply below_alloc | apply pw_below_drewN | apply below_drew1 | refine below_set ?_ GE226.out) | exact HB.out)) hb); have n2_ := Aside0.mk (hbox); have n3_ := Aside0.mk ((by rw [hg]; exact (below_size (by repeat (first | (with_reducible first | exact HB.out | apply below_alloc | apply pw_below_drewN | apply below_drew1 | refine below_set ?_ GE226.out) | exact HB.out))) : w.heap.size ≤ gb227)); have n4_ := Aside0.mk ((by rw [hg]; exact (below_size (by repeat (first | (with_reducible first | exact HB.out | apply below_alloc | apply pw_below_drewN | apply below_drew1 | refine below_set ?_ GE226.out) | exact HB.out))) : w.heap.size ≤ gb227)); have n5_ := Aside0.mk ((by rw [hg]; exact Nat.ne_of_lt (blk_lt (g := gb226) (o := .cells #[.string a0] 9 (0, 0)) (by (with_reducible repeat (first | refine blk_drewN ?_ _ | refine blk_drew ?_ | refine blk_alloc ?_ _)); exact BK226.out)) : gb226 ≠ gb227)); have n6_ := Aside0.mk ((by rw [hg]; exact Nat.ne_of_gt (blk_lt (g := gb226) (o := .cells #[.string a0] 9 (0, 0)) (by (with_reducible repeat (first | refine blk_drewN ?_ _ | refine blk_drew ?_ | refine blk_alloc ?_ _)); exact BK226.out)) : gb227 ≠ gb226)); clear BK226; clear HB; have BK226 := n0_; have HB := n1_; have BK227 := n2_; have GW227 := n3_; have GE227 := n4_; have NB226_227 := n5_; have NB227_226 := n6_; clear n0_ n1_ n2_ n3_ n4_ n5_ n6_; clear hb hbox hg; have hnb11 := NB226_227.out; have hnc11 := NB227_226.out; have hcz12_0 : w10.cell? ⟨gb226, 0, none⟩ = some (.string a0) := (blk_cell BK226.out 0).trans rfl; have hfz12_0 := blk_frozen BK226.out 0))
            have n0_ := Aside0.mk (blk_drew BK226.out)
            have n1_ := Aside0.mk (blk_drew BK227.out)
            have n2_ := Aside0.mk (below_drew1 HB.out)
            clear BK226
            clear BK227
            clear HB
            have BK226 := n0_
            have BK227 := n1_
            have HB := n2_
            clear n0_ n1_ n2_
            refine start_ (n := 6) (S := fun w' => w'.cell? ⟨gb226, 0, none⟩ = some (.string a0)) (ds := []) #[false, false, false, false, false, false] (by kernel_rfl) rfl rfl ((blk_cell BK226.out 0).trans rfl) (fun hHeld => ?_)
            generalize w10.drew = w13 at BK226 BK227 HB hHeld ⊢
            refine pure_ (i := 1) (N := some 15) (v := ?_) (a' := ?_) #[false, true, false, false, false, false] rfl rfl (by kernel_rfl) (fun _ _ _ h => h) (Or.inl ⟨by rfl, ?_⟩) ?_ ?_
            rotate_left
            · intro w'
              go_simp
              with_reducible rfl
            rotate_left
            · simp only [Act.put, List.setIfInBounds_toArray, List.set_cons_zero, List.set_cons_succ, i64_w, i32_w]
              rfl
            refine pure_ (i := 3) (N := some 17) (v := ?_) (a' := ?_) #[false, true, false, true, false, false] rfl rfl (by kernel_rfl) (fun _ _ _ h => h) (Or.inl ⟨by rfl, ?_⟩) ?_ ?_
            rotate_left
            · intro w'
              go_simp
              with_reducible rfl
            rotate_left
            · simp only [Act.put, List.setIfInBounds_toArray, List.set_cons_zero, List.set_cons_succ, i64_w, i32_w]
              rfl
            refine pure_ (i := 4) (N := some 18) (v := ?_) (a' := ?_) #[false, true, false, true, true, false] rfl rfl (by kernel_rfl) (fun _ _ _ h => h) (Or.inl ⟨by rfl, ?_⟩) ?_ ?_
            rotate_left
            · intro w'
              go_simp
              with_reducible rfl
            rotate_left
            · simp only [Act.put, List.setIfInBounds_toArray, List.set_cons_zero, List.set_cons_succ, i64_w, i32_w]
              rfl
            refine take_ (i := 0) (N := some 14) (v := ?_) (a' := ?_) #[true, true, false, true, true, false] rfl rfl (by kernel_rfl) (fun _ _ _ h => h) (Or.inl ⟨by rfl, ?_⟩) hHeld ?_ ?_
            rotate_left
            · intro w' s0
              go_simp
              with_reducible rfl
            rotate_left
            · simp only [Act.put, List.setIfInBounds_toArray, List.set_cons_zero, List.set_cons_succ, i64_w, i32_w]
              rfl
            refine pure_ (i := 2) (N := some 16) (v := ?_) (a' := ?_) #[true, true, true, true, true, false] rfl rfl (by kernel_rfl) (fun _ _ _ h => h) (Or.inl ⟨by rfl, ?_⟩) ?_ ?_
            rotate_left
            · intro w'
              go_simp
              with_reducible rfl
            rotate_left
            · simp only [Act.put, List.setIfInBounds_toArray, List.set_cons_zero, List.set_cons_succ, i64_w, i32_w]
              rfl
            refine pure_ (i := 5) (N := some 19) (v := ?_) (a' := ?_) #[true, true, true, true, true, true] rfl rfl (by kernel_rfl) (fun _ _ _ h => h) (Or.inl ⟨by rfl, ?_⟩) ?_ ?_
            rotate_left
            · intro w'
              go_simp
              with_reducible rfl
            rotate_left
            · simp only [Act.put, List.setIfInBounds_toArray, List.set_cons_zero, List.set_cons_succ, i64_w, i32_w]
              rfl
            refine done_ (by kernel_rfl) ?_
            have hcz14_0 : w13.cell? ⟨gb226, 0, none⟩ = some (.string a0) := (blk_cell BK226.out 0).trans rfl
            have hfz14_0 := blk_frozen BK226.out 0
            have hcz15_0 : w13.cell? ⟨gb227, 0, none⟩ = some (.slice none 0 0) := (blk_cell BK227.out 0).trans rfl
            have hcz15_1 : w13.cell? ⟨gb227, 1, none⟩ = some (.string (⟨#[]⟩ : ByteArray)) := (blk_cell BK227.out 1).trans rfl
            have hcz15_2 : w13.cell? ⟨gb227, 2, none⟩ = some (.int .i64 0) := (blk_cell BK227.out 2).trans rfl
            have hcz15_3 : w13.cell? ⟨gb227, 3, none⟩ = some (.int .u32 0) := (blk_cell BK227.out 3).trans rfl
            have hfz15_0 := blk_frozen BK227.out 0
            have hfz15_1 := blk_frozen BK227.out 1
            have hfz15_2 := blk_frozen BK227.out 2
            have hfz15_3 := blk_frozen BK227.out 3
            try go_wp2
            refine bodyPost_ret (results_ct rfl _ _ gb227 25 #[.slice none 0 0, .string (⟨#[]⟩ : ByteArray), .int .i64 0, .int .u32 0] (0, 0) _ rfl (by (with_reducible repeat (first | refine blk_drewN ?_ _ | refine blk_drew ?_ | refine blk_alloc ?_ _)); refine blk_put (cs := #[.slice none 0 0, .string (⟨#[]⟩ : ByteArray), .int .i64 0, .int .u32 0]) ?_ 3 _ rfl; (with_reducible repeat (first | refine blk_drewN ?_ _ | refine blk_drew ?_ | refine blk_alloc ?_ _)); refine blk_put (cs := #[.slice none 0 0, .string (⟨#[]⟩ : ByteArray), .int .i64 0, .int .u32 0]) ?_ 2 _ rfl; (with_reducible repeat (first | refine blk_drewN ?_ _ | refine blk_drew ?_ | refine blk_alloc ?_ _)); refine blk_put (cs := #[.slice none 0 0, .string (⟨#[]⟩ : ByteArray), .int .i64 0, .int .u32 0]) ?_ 1 _ rfl; (with_reducible repeat (first | refine blk_drewN ?_ _ | refine blk_drew ?_ | refine blk_alloc ?_ _)); refine blk_put (cs := #[.slice none 0 0, .string (⟨#[]⟩ : ByteArray), .int .i64 0, .int .u32 0]) ?_ 0 _ rfl; (with_reducible repeat (first | refine blk_drewN ?_ _ | refine blk_drew ?_ | refine blk_alloc ?_ _)); exact BK227.out) Try.underlying25 rfl (by kernel_rfl)) rfl ?_
            exact ⟨_, by first | rfl | (simp [errW_none, errW_some] <;> rfl) | (simp only [← hji2]; first | rfl | (simp [errW_none, errW_some] <;> rfl)) | (simp [*, errW_none, errW_some] <;> rfl), by first | exact Kd.R_nil _ _ _ _ _ | exact Kd.N_nil _ _ _ _ _ | exact Kd.V_nil _ _ _ _ _ | exact Kd.Q_nil _ _ _ _ _ | exact Kd.S_nil _ _ _ _ _, by repeat (first | (with_reducible first | exact HB.out | apply below_alloc | apply pw_below_drewN | apply below_drew1 | refine below_set ?_ GE226.out | refine below_set ?_ GE227.out) | exact HB.out)⟩
          · rw [if_neg c8] at H
            have c8b0 : decide ((a0.size : Int) < 14) = false := decide_eq_false c8
            have c8b1 : decide (a0.size < 14) = false := decide_eq_false (by omega)
            clear c8
            replace H := Option.bind_eq_some_iff.mp H
            obtain ⟨t228, A160, H⟩ := H
            replace H : ((exe_Of_1.f 10 2 a0).bind fun t229 => (if (a0.size : Int) < (wrap64 ((wrap64 (14 + (wrap64 (4 * t228)))) + t229)) then (some (([] : List Int), (⟨#[]⟩ : ByteArray), 0, 0, 4)) else ((exe_Of_1.f 4 4 a0).bind fun t230 => ((exe_Of_1.f 12 2 a0).bind fun t231 => (if 0 ≤ (wrap64 ((wrap64 ((wrap64 (14 + (wrap64 (4 * t228)))) + t229)) - t229)) then (if (wrap64 ((wrap64 ((wrap64 (14 + (wrap64 (4 * t228)))) + t229)) - t229)) ≤ (wrap64 ((wrap64 (14 + (wrap64 (4 * t228)))) + t229)) then (if (wrap64 ((wrap64 (14 + (wrap64 (4 * t228)))) + t229)) ≤ (a0.size : Int) then ((strings_Clone.f (a0.extract ((wrap64 ((wrap64 ((wrap64 (14 + (wrap64 (4 * t228)))) + t229)) - t229)) : Int).toNat ((wrap64 ((wrap64 (14 + (wrap64 (4 * t228)))) + t229)) : Int).toNat)).bind fun t232 => (exe_Of.l0 k (wrap64 ((wrap64 (14 + (wrap64 (4 * t228)))) + t229)) t228 0 a0 ([] : List Int) t232 t231 (IntKind.u32.wrap (t230)))) else (none)) else (none)) else (none)))))) = some (r1, r2, r3, r4, r5) := H
            have A16 := Aside0.mk A160
            clear A160
            replace H := Option.bind_eq_some_iff.mp H
            obtain ⟨t229, A170, H⟩ := H
            replace H : (if (a0.size : Int) < (wrap64 ((wrap64 (14 + (wrap64 (4 * t228)))) + t229)) then (some (([] : List Int), (⟨#[]⟩ : ByteArray), 0, 0, 4)) else ((exe_Of_1.f 4 4 a0).bind fun t230 => ((exe_Of_1.f 12 2 a0).bind fun t231 => (if 0 ≤ (wrap64 ((wrap64 ((wrap64 (14 + (wrap64 (4 * t228)))) + t229)) - t229)) then (if (wrap64 ((wrap64 ((wrap64 (14 + (wrap64 (4 * t228)))) + t229)) - t229)) ≤ (wrap64 ((wrap64 (14 + (wrap64 (4 * t228)))) + t229)) then (if (wrap64 ((wrap64 (14 + (wrap64 (4 * t228)))) + t229)) ≤ (a0.size : Int) then ((strings_Clone.f (a0.extract ((wrap64 ((wrap64 ((wrap64 (14 + (wrap64 (4 * t228)))) + t229)) - t229)) : Int).toNat ((wrap64 ((wrap64 (14 + (wrap64 (4 * t228)))) + t229)) : Int).toNat)).bind fun t232 => (exe_Of.l0 k (wrap64 ((wrap64 (14 + (wrap64 (4 * t228)))) + t229)) t228 0 a0 ([] : List Int) t232 t231 (IntKind.u32.wrap (t230)))) else (none)) else (none)) else (none))))) = some (r1, r2, r3, r4, r5) := H
            have A17 := Aside0.mk A170
            clear A170
            by_cases c18 : (a0.size : Int) < (wrap64 ((wrap64 (14 + (wrap64 (4 * t228)))) + t229))
            · rw [if_pos c18] at H
              have c18b0 : decide ((a0.size : Int) < (wrap64 ((wrap64 (14 + (wrap64 (4 * t228)))) + t229))) = true := decide_eq_true c18
              clear c18
              simp only [Option.some.injEq, Prod.mk.injEq] at H
              obtain ⟨rfl, rfl, rfl, rfl, rfl⟩ := H
              go_enter Try.func18, Try.ntmps18
              try go_wp2_with (first | ((with_reducible refine gate_dst (N := 1) rfl ?_); refine box_event ?hg (N := 1) ?hd (cs := #[.string a0]) (t := 9) ?hr ?_; (case hd => rfl); (case hg => rfl); (case hr => first | (go_simp; done) | (go_simp; rfl)); intro gb226 hg w19 hbox hb; have n0_ := Aside0.mk (below_step (by repeat (first | (with_reducible first | exact HB.out | apply below_alloc | apply pw_below_drewN | apply below_drew1) | exact HB.out)) hb); have n1_ := Aside0.mk (hbox); have n2_ := Aside0.mk ((by rw [hg]; exact (below_size (by repeat (first | (with_reducible first | exact HB.out | apply below_alloc | apply pw_below_drewN | apply below_drew1) | exact HB.out))) : w.heap.size ≤ gb226)); have n3_ := Aside0.mk ((by rw [hg]; exact (below_size (by repeat (first | (with_reducible first | exact HB.out | apply below_alloc | apply pw_below_drewN | apply below_drew1) | exact HB.out))) : w.heap.size ≤ gb226)); clear HB; have HB := n0_; have BK226 := n1_; have GW226 := n2_; have GE226 := n3_; clear n0_ n1_ n2_ n3_; clear hb hbox hg) | ((with_reducible refine gate_dst (N := 2) rfl ?_); refine box_event ?hg (N := 2) ?hd (cs := #[.slice none 0 0, .string (⟨#[]⟩ : ByteArray), .int .i64 0, .int .u32 0]) (t := 25) ?hr ?_; (case hd => rfl); (case hg => rfl); (case hr => first | (go_simp; done) | (go_simp; rfl)); intro gb227 hg w20 hbox hb; have n0_ := Aside0.mk (blk_below (g := gb226) (o := .cells #[.string a0] 9 (0, 0)) (by (with_reducible repeat (first | refine blk_drewN ?_ _ | refine blk_drew ?_ | refine blk_alloc ?_ _)); exact BK226.out) hb); have n1_ := Aside0.mk (below_step (by repeat (first | (with_reducible first | exact HB.out | apply below_alloc | apply pw_below_drewN | apply below_drew1 | refine below_set ?_ GE226.out) | exact HB.out)) hb); have n2_ := Aside0.mk (hbox); have n3_ := Aside0.mk ((by rw [hg]; exact (below_size (by repeat (first | (with_reducible first | exact HB.out | apply below_alloc | apply pw_below_drewN | apply below_drew1 | refine below_set ?_ GE226.out) | exact HB.out))) : w.heap.size ≤ gb227)); have n4_ := Aside0.mk ((by rw [hg]; exact (below_size (by repeat (first | (with_reducible first | exact HB.out | apply below_alloc | apply pw_below_drewN | apply below_drew1 | refine below_set ?_ GE226.out) | exact HB.out))) : w.heap.size ≤ gb227)); have n5_ := Aside0.mk ((by rw [hg]; exact Nat.ne_of_lt (blk_lt (g := gb226) (o := .cells #[.string a0] 9 (0, 0)) (by (with_reducible repeat (first | refine blk_drewN ?_ _ | refine blk_drew ?_ | refine blk_alloc ?_ _)); exact BK226.out)) : gb226 ≠ gb227)); have n6_ := Aside0.mk ((by rw [hg]; exact Nat.ne_of_gt (blk_lt (g := gb226) (o := .cells #[.string a0] 9 (0, 0)) (by (with_reducible repeat (first | refine blk_drewN ?_ _ | refine blk_drew ?_ | refine blk_alloc ?_ _)); exact BK226.out)) : gb227 ≠ gb226)); clear BK226; clear HB; have BK226 := n0_; have HB := n1_; have BK227 := n2_; have GW227 := n3_; have GE227 := n4_; have NB226_227 := n5_; have NB227_226 := n6_; clear n0_ n1_ n2_ n3_ n4_ n5_ n6_; clear hb hbox hg; have hnb21 := NB226_227.out; have hnc21 := NB227_226.out; have hcz22_0 : w20.cell? ⟨gb226, 0, none⟩ = some (.string a0) := (blk_cell BK226.out 0).trans rfl; have hfz22_0 := blk_frozen BK226.out 0))
              have n0_ := Aside0.mk (blk_drew BK226.out)
              have n1_ := Aside0.mk (blk_drew BK227.out)
              have n2_ := Aside0.mk (below_drew1 HB.out)
              clear BK226
              clear BK227
              clear HB
              have BK226 := n0_
              have BK227 := n1_
              have HB := n2_
              clear n0_ n1_ n2_
              refine start_ (n := 6) (S := fun w' => w'.cell? ⟨gb226, 0, none⟩ = some (.string a0)) (ds := []) #[false, false, false, false, false, false] (by kernel_rfl) rfl rfl ((blk_cell BK226.out 0).trans rfl) (fun hHeld => ?_)
              generalize w20.drew = w23 at BK226 BK227 HB hHeld ⊢
              refine pure_ (i := 1) (N := some 15) (v := ?_) (a' := ?_) #[false, true, false, false, false, false] rfl rfl (by kernel_rfl) (fun _ _ _ h => h) (Or.inl ⟨by rfl, ?_⟩) ?_ ?_
              rotate_left
              · intro w'
                go_simp
                with_reducible rfl
              rotate_left
              · simp only [Act.put, List.setIfInBounds_toArray, List.set_cons_zero, List.set_cons_succ, i64_w, i32_w]
                rfl
              refine pure_ (i := 3) (N := some 17) (v := ?_) (a' := ?_) #[false, true, false, true, false, false] rfl rfl (by kernel_rfl) (fun _ _ _ h => h) (Or.inl ⟨by rfl, ?_⟩) ?_ ?_
              rotate_left
              · intro w'
                go_simp
                with_reducible rfl
              rotate_left
              · simp only [Act.put, List.setIfInBounds_toArray, List.set_cons_zero, List.set_cons_succ, i64_w, i32_w]
                rfl
              refine pure_ (i := 4) (N := some 18) (v := ?_) (a' := ?_) #[false, true, false, true, true, false] rfl rfl (by kernel_rfl) (fun _ _ _ h => h) (Or.inl ⟨by rfl, ?_⟩) ?_ ?_
              rotate_left
              · intro w'
                go_simp
                with_reducible rfl
              rotate_left
              · simp only [Act.put, List.setIfInBounds_toArray, List.set_cons_zero, List.set_cons_succ, i64_w, i32_w]
                rfl
              refine take_ (i := 0) (N := some 14) (v := ?_) (a' := ?_) #[true, true, false, true, true, false] rfl rfl (by kernel_rfl) (fun _ _ _ h => h) (Or.inl ⟨by rfl, ?_⟩) hHeld ?_ ?_
              rotate_left
              · intro w' s0
                go_simp
                with_reducible rfl
              rotate_left
              · simp only [Act.put, List.setIfInBounds_toArray, List.set_cons_zero, List.set_cons_succ, i64_w, i32_w]
                rfl
              refine pure_ (i := 2) (N := some 16) (v := ?_) (a' := ?_) #[true, true, true, true, true, false] rfl rfl (by kernel_rfl) (fun _ _ _ h => h) (Or.inl ⟨by rfl, ?_⟩) ?_ ?_
              rotate_left
              · intro w'
                go_simp
                with_reducible rfl
              rotate_left
              · simp only [Act.put, List.setIfInBounds_toArray, List.set_cons_zero, List.set_cons_succ, i64_w, i32_w]
                rfl
              refine pure_ (i := 5) (N := some 19) (v := ?_) (a' := ?_) #[true, true, true, true, true, true] rfl rfl (by kernel_rfl) (fun _ _ _ h => h) (Or.inl ⟨by rfl, ?_⟩) ?_ ?_
              rotate_left
              · intro w'
                go_simp
                with_reducible rfl
              rotate_left
              · simp only [Act.put, List.setIfInBounds_toArray, List.set_cons_zero, List.set_cons_succ, i64_w, i32_w]
                rfl
              refine done_ (by kernel_rfl) ?_
              have hcz24_0 : w23.cell? ⟨gb226, 0, none⟩ = some (.string a0) := (blk_cell BK226.out 0).trans rfl
              have hfz24_0 := blk_frozen BK226.out 0
              try go_wp2_with (first | ((with_reducible refine gate_calleeV rfl ?_); refine goesCL_ (some 27) rfl rfl #[.pointer (some ⟨gb226, 0, none⟩)] Try.func35 (by kernel_rfl) rfl #[.int .i64 8, .int .i64 2] #[.int .i64 8, .int .i64 2, .pointer (some ⟨gb226, 0, none⟩)] rfl rfl rfl (by (try simp only [List.map_toArray, List.map_cons, List.map_nil]); first | done | rfl | (simp only [List.length_drop, List.length_take]; rfl)) ?_; (with_reducible refine (exe_Of_1.calls 8 2 a0 t228 _ ?side1 A16.out).mono ?_); (case side1 => (with_reducible repeat (first | refine blk_drewN ?_ _ | refine blk_drew ?_ | refine blk_alloc ?_ _)); exact BK226.out); rintro e w25 ⟨rfl, hb⟩; refine ⟨_, rfl, ?_⟩; have n0_ := Aside0.mk (blk_below (g := gb226) (o := .cells #[.string a0] 9 (0, 0)) (by (with_reducible repeat (first | refine blk_drewN ?_ _ | refine blk_drew ?_ | refine blk_alloc ?_ _)); exact BK226.out) hb); have n1_ := Aside0.mk (blk_below (g := gb227) (o := .cells #[.slice none 0 0, .string (⟨#[]⟩ : ByteArray), .int .i64 0, .int .u32 0] 25 (0, 0)) (by (with_reducible repeat (first | refine blk_drewN ?_ _ | refine blk_drew ?_ | refine blk_alloc ?_ _)); exact BK227.out) hb); have n2_ := Aside0.mk (below_step (by repeat (first | (with_reducible first | exact HB.out | apply below_alloc | apply pw_below_drewN | apply below_drew1 | refine below_set ?_ GE226.out | refine below_set ?_ GE227.out) | exact HB.out)) hb); clear BK226; clear BK227; clear HB; have BK226 := n0_; have BK227 := n1_; have HB := n2_; clear n0_ n1_ n2_; (try clear hb); (try clear hb2); (try clear hk); (try clear hi)) | ((with_reducible refine gate_calleeV rfl ?_); refine goesCL_ (some 29) rfl rfl #[.pointer (some ⟨gb226, 0, none⟩)] Try.func35 (by kernel_rfl) rfl #[.int .i64 10, .int .i64 2] #[.int .i64 10, .int .i64 2, .pointer (some ⟨gb226, 0, none⟩)] rfl rfl rfl (by (try simp only [List.map_toArray, List.map_cons, List.map_nil]); first | done | rfl | (simp only [List.length_drop, List.length_take]; rfl)) ?_; (with_reducible refine (exe_Of_1.calls 10 2 a0 t229 _ ?side1 A17.out).mono ?_); (case side1 => (with_reducible repeat (first | refine blk_drewN ?_ _ | refine blk_drew ?_ | refine blk_alloc ?_ _)); exact BK226.out); rintro e w26 ⟨rfl, hb⟩; refine ⟨_, rfl, ?_⟩; have n0_ := Aside0.mk (blk_below (g := gb226) (o := .cells #[.string a0] 9 (0, 0)) (by (with_reducible repeat (first | refine blk_drewN ?_ _ | refine blk_drew ?_ | refine blk_alloc ?_ _)); exact BK226.out) hb); have n1_ := Aside0.mk (blk_below (g := gb227) (o := .cells #[.slice none 0 0, .string (⟨#[]⟩ : ByteArray), .int .i64 0, .int .u32 0] 25 (0, 0)) (by (with_reducible repeat (first | refine blk_drewN ?_ _ | refine blk_drew ?_ | refine blk_alloc ?_ _)); exact BK227.out) hb); have n2_ := Aside0.mk (below_step (by repeat (first | (with_reducible first | exact HB.out | apply below_alloc | apply pw_below_drewN | apply below_drew1 | refine below_set ?_ GE226.out | refine below_set ?_ GE227.out) | exact HB.out)) hb); clear BK226; clear BK227; clear HB; have BK226 := n0_; have BK227 := n1_; have HB := n2_; clear n0_ n1_ n2_; (try clear hb); (try clear hb2); (try clear hk); (try clear hi); have hcz27_0 : w26.cell? ⟨gb226, 0, none⟩ = some (.string a0) := (blk_cell BK226.out 0).trans rfl; have hfz27_0 := blk_frozen BK226.out 0; have hcz28_0 : w26.cell? ⟨gb227, 0, none⟩ = some (.slice none 0 0) := (blk_cell BK227.out 0).trans rfl; have hcz28_1 : w26.cell? ⟨gb227, 1, none⟩ = some (.string (⟨#[]⟩ : ByteArray)) := (blk_cell BK227.out 1).trans rfl; have hcz28_2 : w26.cell? ⟨gb227, 2, none⟩ = some (.int .i64 0) := (blk_cell BK227.out 2).trans rfl; have hcz28_3 : w26.cell? ⟨gb227, 3, none⟩ = some (.int .u32 0) := (blk_cell BK227.out 3).trans rfl; have hfz28_0 := blk_frozen BK227.out 0; have hfz28_1 := blk_frozen BK227.out 1; have hfz28_2 := blk_frozen BK227.out 2; have hfz28_3 := blk_frozen BK227.out 3))
              refine bodyPost_ret (results_ct rfl _ _ gb227 25 #[.slice none 0 0, .string (⟨#[]⟩ : ByteArray), .int .i64 0, .int .u32 0] (0, 0) _ rfl (by (with_reducible repeat (first | refine blk_drewN ?_ _ | refine blk_drew ?_ | refine blk_alloc ?_ _)); refine blk_put (cs := #[.slice none 0 0, .string (⟨#[]⟩ : ByteArray), .int .i64 0, .int .u32 0]) ?_ 3 _ rfl; (with_reducible repeat (first | refine blk_drewN ?_ _ | refine blk_drew ?_ | refine blk_alloc ?_ _)); refine blk_put (cs := #[.slice none 0 0, .string (⟨#[]⟩ : ByteArray), .int .i64 0, .int .u32 0]) ?_ 2 _ rfl; (with_reducible repeat (first | refine blk_drewN ?_ _ | refine blk_drew ?_ | refine blk_alloc ?_ _)); refine blk_put (cs := #[.slice none 0 0, .string (⟨#[]⟩ : ByteArray), .int .i64 0, .int .u32 0]) ?_ 1 _ rfl; (with_reducible repeat (first | refine blk_drewN ?_ _ | refine blk_drew ?_ | refine blk_alloc ?_ _)); refine blk_put (cs := #[.slice none 0 0, .string (⟨#[]⟩ : ByteArray), .int .i64 0, .int .u32 0]) ?_ 0 _ rfl; (with_reducible repeat (first | refine blk_drewN ?_ _ | refine blk_drew ?_ | refine blk_alloc ?_ _)); exact BK227.out) Try.underlying25 rfl (by kernel_rfl)) rfl ?_
              exact ⟨_, by first | rfl | (simp [errW_none, errW_some] <;> rfl) | (simp only [← hji2]; first | rfl | (simp [errW_none, errW_some] <;> rfl)) | (simp [*, errW_none, errW_some] <;> rfl), by first | exact Kd.R_nil _ _ _ _ _ | exact Kd.N_nil _ _ _ _ _ | exact Kd.V_nil _ _ _ _ _ | exact Kd.Q_nil _ _ _ _ _ | exact Kd.S_nil _ _ _ _ _, by repeat (first | (with_reducible first | exact HB.out | apply below_alloc | apply pw_below_drewN | apply below_drew1 | refine below_set ?_ GE226.out | refine below_set ?_ GE227.out) | exact HB.out)⟩
            · rw [if_neg c18] at H
              have c18b0 : decide ((a0.size : Int) < (wrap64 ((wrap64 (14 + (wrap64 (4 * t228)))) + t229))) = false := decide_eq_false c18
              clear c18
              replace H := Option.bind_eq_some_iff.mp H
              obtain ⟨t230, A290, H⟩ := H
              replace H : ((exe_Of_1.f 12 2 a0).bind fun t231 => (if 0 ≤ (wrap64 ((wrap64 ((wrap64 (14 + (wrap64 (4 * t228)))) + t229)) - t229)) then (if (wrap64 ((wrap64 ((wrap64 (14 + (wrap64 (4 * t228)))) + t229)) - t229)) ≤ (wrap64 ((wrap64 (14 + (wrap64 (4 * t228)))) + t229)) then (if (wrap64 ((wrap64 (14 + (wrap64 (4 * t228)))) + t229)) ≤ (a0.size : Int) then ((strings_Clone.f (a0.extract ((wrap64 ((wrap64 ((wrap64 (14 + (wrap64 (4 * t228)))) + t229)) - t229)) : Int).toNat ((wrap64 ((wrap64 (14 + (wrap64 (4 * t228)))) + t229)) : Int).toNat)).bind fun t232 => (exe_Of.l0 k (wrap64 ((wrap64 (14 + (wrap64 (4 * t228)))) + t229)) t228 0 a0 ([] : List Int) t232 t231 (IntKind.u32.wrap (t230)))) else (none)) else (none)) else (none))) = some (r1, r2, r3, r4, r5) := H
              have A29 := Aside0.mk A290
              clear A290
              replace H := Option.bind_eq_some_iff.mp H
              obtain ⟨t231, A300, H⟩ := H
              replace H : (if 0 ≤ (wrap64 ((wrap64 ((wrap64 (14 + (wrap64 (4 * t228)))) + t229)) - t229)) then (if (wrap64 ((wrap64 ((wrap64 (14 + (wrap64 (4 * t228)))) + t229)) - t229)) ≤ (wrap64 ((wrap64 (14 + (wrap64 (4 * t228)))) + t229)) then (if (wrap64 ((wrap64 (14 + (wrap64 (4 * t228)))) + t229)) ≤ (a0.size : Int) then ((strings_Clone.f (a0.extract ((wrap64 ((wrap64 ((wrap64 (14 + (wrap64 (4 * t228)))) + t229)) - t229)) : Int).toNat ((wrap64 ((wrap64 (14 + (wrap64 (4 * t228)))) + t229)) : Int).toNat)).bind fun t232 => (exe_Of.l0 k (wrap64 ((wrap64 (14 + (wrap64 (4 * t228)))) + t229)) t228 0 a0 ([] : List Int) t232 t231 (IntKind.u32.wrap (t230)))) else (none)) else (none)) else (none)) = some (r1, r2, r3, r4, r5) := H
              have A30 := Aside0.mk A300
              clear A300
              obtain ⟨ji31, hji31⟩ : ∃ j_ : Int, (wrap64 ((wrap64 ((wrap64 (14 + (wrap64 (4 * t228)))) + t229)) - t229)) = j_ := ⟨_, rfl⟩
              replace H : (if 0 ≤ (ji31) then (if (ji31) ≤ (wrap64 ((wrap64 (14 + (wrap64 (4 * t228)))) + t229)) then (if (wrap64 ((wrap64 (14 + (wrap64 (4 * t228)))) + t229)) ≤ (a0.size : Int) then ((strings_Clone.f (a0.extract ((ji31) : Int).toNat ((wrap64 ((wrap64 (14 + (wrap64 (4 * t228)))) + t229)) : Int).toNat)).bind fun t232 => (exe_Of.l0 k (wrap64 ((wrap64 (14 + (wrap64 (4 * t228)))) + t229)) t228 0 a0 ([] : List Int) t232 t231 (IntKind.u32.wrap (t230)))) else (none)) else (none)) else (none)) = some (r1, r2, r3, r4, r5) := by first | (rw [hji31] at H; exact H) | (simp only [hji31] at H ⊢; exact H)
              (try rw [hji31] at A16)
              (try rw [hji31] at A17)
              (try rw [hji31] at A29)
              (try rw [hji31] at A30)
              have hji31w : (IntKind.i64.wrap ((wrap64 ((wrap64 (14 + (wrap64 (4 * t228)))) + t229)) - t229)) = ji31 := (i64_w _).trans hji31
              by_cases c32 : 0 ≤ (ji31)
              · rw [if_pos c32] at H
                have c32b0 := eq_true c32
                have c32b1 : decide (0 ≤ (ji31)) = true := decide_eq_true c32
                clear c32
                by_cases c33 : (ji31) ≤ (wrap64 ((wrap64 (14 + (wrap64 (4 * t228)))) + t229))
                · rw [if_pos c33] at H
                  have c33b0 := eq_true c33
                  have c33b1 : decide ((ji31) ≤ (wrap64 ((wrap64 (14 + (wrap64 (4 * t228)))) + t229))) = true := decide_eq_true c33
                  by_cases c34 : (wrap64 ((wrap64 (14 + (wrap64 (4 * t228)))) + t229)) ≤ (a0.size : Int)
                  · rw [if_pos c34] at H
                    have c34b0 := eq_true c34
                    have c34b1 : decide ((wrap64 ((wrap64 (14 + (wrap64 (4 * t228)))) + t229)) ≤ (a0.size : Int)) = true := decide_eq_true c34
                    replace H := Option.bind_eq_some_iff.mp H
                    obtain ⟨t232, A350, H⟩ := H
                    replace H : (exe_Of.l0 k (wrap64 ((wrap64 (14 + (wrap64 (4 * t228)))) + t229)) t228 0 a0 ([] : List Int) t232 t231 (IntKind.u32.wrap (t230))) = some (r1, r2, r3, r4, r5) := H
                    have A35 := Aside0.mk A350
                    clear A350
                    have H' := Aside0.mk H
                    clear H
                    go_enter Try.func18, Try.ntmps18
                    try go_wp2_with (first | ((with_reducible refine gate_dst (N := 1) rfl ?_); refine box_event ?hg (N := 1) ?hd (cs := #[.string a0]) (t := 9) ?hr ?_; (case hd => rfl); (case hg => rfl); (case hr => first | (go_simp; done) | (go_simp; rfl)); intro gb226 hg w36 hbox hb; have n0_ := Aside0.mk (below_step (by repeat (first | (with_reducible first | exact HB.out | apply below_alloc | apply pw_below_drewN | apply below_drew1) | exact HB.out)) hb); have n1_ := Aside0.mk (hbox); have n2_ := Aside0.mk ((by rw [hg]; exact (below_size (by repeat (first | (with_reducible first | exact HB.out | apply below_alloc | apply pw_below_drewN | apply below_drew1) | exact HB.out))) : w.heap.size ≤ gb226)); have n3_ := Aside0.mk ((by rw [hg]; exact (below_size (by repeat (first | (with_reducible first | exact HB.out | apply below_alloc | apply pw_below_drewN | apply below_drew1) | exact HB.out))) : w.heap.size ≤ gb226)); clear HB; have HB := n0_; have BK226 := n1_; have GW226 := n2_; have GE226 := n3_; clear n0_ n1_ n2_ n3_; clear hb hbox hg) | ((with_reducible refine gate_dst (N := 2) rfl ?_); refine box_event ?hg (N := 2) ?hd (cs := #[.slice none 0 0, .string (⟨#[]⟩ : ByteArray), .int .i64 0, .int .u32 0]) (t := 25) ?hr ?_; (case hd => rfl); (case hg => rfl); (case hr => first | (go_simp; done) | (go_simp; rfl)); intro gb227 hg w37 hbox hb; have n0_ := Aside0.mk (blk_below (g := gb226) (o := .cells #[.string a0] 9 (0, 0)) (by (with_reducible repeat (first | refine blk_drewN ?_ _ | refine blk_drew ?_ | refine blk_alloc ?_ _)); exact BK226.out) hb); have n1_ := Aside0.mk (below_step (by repeat (first | (with_reducible first | exact HB.out | apply below_alloc | apply pw_below_drewN | apply below_drew1 | refine below_set ?_ GE226.out) | exact HB.out)) hb); have n2_ := Aside0.mk (hbox); have n3_ := Aside0.mk ((by rw [hg]; exact (below_size (by repeat (first | (with_reducible first | exact HB.out | apply below_alloc | apply pw_below_drewN | apply below_drew1 | refine below_set ?_ GE226.out) | exact HB.out))) : w.heap.size ≤ gb227)); have n4_ := Aside0.mk ((by rw [hg]; exact (below_size (by repeat (first | (with_reducible first | exact HB.out | apply below_alloc | apply pw_below_drewN | apply below_drew1 | refine below_set ?_ GE226.out) | exact HB.out))) : w.heap.size ≤ gb227)); have n5_ := Aside0.mk ((by rw [hg]; exact Nat.ne_of_lt (blk_lt (g := gb226) (o := .cells #[.string a0] 9 (0, 0)) (by (with_reducible repeat (first | refine blk_drewN ?_ _ | refine blk_drew ?_ | refine blk_alloc ?_ _)); exact BK226.out)) : gb226 ≠ gb227)); have n6_ := Aside0.mk ((by rw [hg]; exact Nat.ne_of_gt (blk_lt (g := gb226) (o := .cells #[.string a0] 9 (0, 0)) (by (with_reducible repeat (first | refine blk_drewN ?_ _ | refine blk_drew ?_ | refine blk_alloc ?_ _)); exact BK226.out)) : gb227 ≠ gb226)); clear BK226; clear HB; have BK226 := n0_; have HB := n1_; have BK227 := n2_; have GW227 := n3_; have GE227 := n4_; have NB226_227 := n5_; have NB227_226 := n6_; clear n0_ n1_ n2_ n3_ n4_ n5_ n6_; clear hb hbox hg; have hnb38 := NB226_227.out; have hnc38 := NB227_226.out; have hcz39_0 : w37.cell? ⟨gb226, 0, none⟩ = some (.string a0) := (blk_cell BK226.out 0).trans rfl; have hfz39_0 := blk_frozen BK226.out 0))
                    have n0_ := Aside0.mk (blk_drew BK226.out)
                    have n1_ := Aside0.mk (blk_drew BK227.out)
                    have n2_ := Aside0.mk (below_drew1 HB.out)
                    clear BK226
                    clear BK227
                    clear HB
                    have BK226 := n0_
                    have BK227 := n1_
                    have HB := n2_
                    clear n0_ n1_ n2_
                    refine start_ (n := 6) (S := fun w' => w'.cell? ⟨gb226, 0, none⟩ = some (.string a0)) (ds := []) #[false, false, false, false, false, false] (by kernel_rfl) rfl rfl ((blk_cell BK226.out 0).trans rfl) (fun hHeld => ?_)
                    generalize w37.drew = w40 at BK226 BK227 HB hHeld ⊢
                    refine pure_ (i := 1) (N := some 15) (v := ?_) (a' := ?_) #[false, true, false, false, false, false] rfl rfl (by kernel_rfl) (fun _ _ _ h => h) (Or.inl ⟨by rfl, ?_⟩) ?_ ?_
                    rotate_left
                    · intro w'
                      go_simp
                      with_reducible rfl
                    rotate_left
                    · simp only [Act.put, List.setIfInBounds_toArray, List.set_cons_zero, List.set_cons_succ, i64_w, i32_w]
                      rfl
                    refine pure_ (i := 3) (N := some 17) (v := ?_) (a' := ?_) #[false, true, false, true, false, false] rfl rfl (by kernel_rfl) (fun _ _ _ h => h) (Or.inl ⟨by rfl, ?_⟩) ?_ ?_
                    rotate_left
                    · intro w'
                      go_simp
                      with_reducible rfl
                    rotate_left
                    · simp only [Act.put, List.setIfInBounds_toArray, List.set_cons_zero, List.set_cons_succ, i64_w, i32_w]
                      rfl
                    refine pure_ (i := 4) (N := some 18) (v := ?_) (a' := ?_) #[false, true, false, true, true, false] rfl rfl (by kernel_rfl) (fun _ _ _ h => h) (Or.inl ⟨by rfl, ?_⟩) ?_ ?_
                    rotate_left
                    · intro w'
                      go_simp
                      with_reducible rfl
                    rotate_left
                    · simp only [Act.put, List.setIfInBounds_toArray, List.set_cons_zero, List.set_cons_succ, i64_w, i32_w]
                      rfl
                    refine take_ (i := 0) (N := some 14) (v := ?_) (a' := ?_) #[true, true, false, true, true, false] rfl rfl (by kernel_rfl) (fun _ _ _ h => h) (Or.inl ⟨by rfl, ?_⟩) hHeld ?_ ?_
                    rotate_left
                    · intro w' s0
                      go_simp
                      with_reducible rfl
                    rotate_left
                    · simp only [Act.put, List.setIfInBounds_toArray, List.set_cons_zero, List.set_cons_succ, i64_w, i32_w]
                      rfl
                    refine pure_ (i := 2) (N := some 16) (v := ?_) (a' := ?_) #[true, true, true, true, true, false] rfl rfl (by kernel_rfl) (fun _ _ _ h => h) (Or.inl ⟨by rfl, ?_⟩) ?_ ?_
                    rotate_left
                    · intro w'
                      go_simp
                      with_reducible rfl
                    rotate_left
                    · simp only [Act.put, List.setIfInBounds_toArray, List.set_cons_zero, List.set_cons_succ, i64_w, i32_w]
                      rfl
                    refine pure_ (i := 5) (N := some 19) (v := ?_) (a' := ?_) #[true, true, true, true, true, true] rfl rfl (by kernel_rfl) (fun _ _ _ h => h) (Or.inl ⟨by rfl, ?_⟩) ?_ ?_
                    rotate_left
                    · intro w'
                      go_simp
                      with_reducible rfl
                    rotate_left
                    · simp only [Act.put, List.setIfInBounds_toArray, List.set_cons_zero, List.set_cons_succ, i64_w, i32_w]
                      rfl
                    refine done_ (by kernel_rfl) ?_
                    have hcz41_0 : w40.cell? ⟨gb226, 0, none⟩ = some (.string a0) := (blk_cell BK226.out 0).trans rfl
                    have hfz41_0 := blk_frozen BK226.out 0
                    try go_wp2_with (first | ((with_reducible refine gate_calleeV rfl ?_); refine goesCL_ (some 27) rfl rfl #[.pointer (some ⟨gb226, 0, none⟩)] Try.func35 (by kernel_rfl) rfl #[.int .i64 8, .int .i64 2] #[.int .i64 8, .int .i64 2, .pointer (some ⟨gb226, 0, none⟩)] rfl rfl rfl (by (try simp only [List.map_toArray, List.map_cons, List.map_nil]); first | done | rfl | (simp only [List.length_drop, List.length_take]; rfl)) ?_; (with_reducible refine (exe_Of_1.calls 8 2 a0 t228 _ ?side1 A16.out).mono ?_); (case side1 => (with_reducible repeat (first | refine blk_drewN ?_ _ | refine blk_drew ?_ | refine blk_alloc ?_ _)); exact BK226.out); rintro e w42 ⟨rfl, hb⟩; refine ⟨_, rfl, ?_⟩; have n0_ := Aside0.mk (blk_below (g := gb226) (o := .cells #[.string a0] 9 (0, 0)) (by (with_reducible repeat (first | refine blk_drewN ?_ _ | refine blk_drew ?_ | refine blk_alloc ?_ _)); exact BK226.out) hb); have n1_ := Aside0.mk (blk_below (g := gb227) (o := .cells #[.slice none 0 0, .string (⟨#[]⟩ : ByteArray), .int .i64 0, .int .u32 0] 25 (0, 0)) (by (with_reducible repeat (first | refine blk_drewN ?_ _ | refine blk_drew ?_ | refine blk_alloc ?_ _)); exact BK227.out) hb); have n2_ := Aside0.mk (below_step (by repeat (first | (with_reducible first | exact HB.out | apply below_alloc | apply pw_below_drewN | apply below_drew1 | refine below_set ?_ GE226.out | refine below_set ?_ GE227.out) | exact HB.out)) hb); clear BK226; clear BK227; clear HB; have BK226 := n0_; have BK227 := n1_; have HB := n2_; clear n0_ n1_ n2_; (try clear hb); (try clear hb2); (try clear hk); (try clear hi)) | ((with_reducible refine gate_calleeV rfl ?_); refine goesCL_ (some 29) rfl rfl #[.pointer (some ⟨gb226, 0, none⟩)] Try.func35 (by kernel_rfl) rfl #[.int .i64 10, .int .i64 2] #[.int .i64 10, .int .i64 2, .pointer (some ⟨gb226, 0, none⟩)] rfl rfl rfl (by (try simp only [List.map_toArray, List.map_cons, List.map_nil]); first | done | rfl | (simp only [List.length_drop, List.length_take]; rfl)) ?_; (with_reducible refine (exe_Of_1.calls 10 2 a0 t229 _ ?side1 A17.out).mono ?_); (case side1 => (with_reducible repeat (first | refine blk_drewN ?_ _ | refine blk_drew ?_ | refine blk_alloc ?_ _)); exact BK226.out); rintro e w43 ⟨rfl, hb⟩; refine ⟨_, rfl, ?_⟩; have n0_ := Aside0.mk (blk_below (g := gb226) (o := .cells #[.string a0] 9 (0, 0)) (by (with_reducible repeat (first | refine blk_drewN ?_ _ | refine blk_drew ?_ | refine blk_alloc ?_ _)); exact BK226.out) hb); have n1_ := Aside0.mk (blk_below (g := gb227) (o := .cells #[.slice none 0 0, .string (⟨#[]⟩ : ByteArray), .int .i64 0, .int .u32 0] 25 (0, 0)) (by (with_reducible repeat (first | refine blk_drewN ?_ _ | refine blk_drew ?_ | refine blk_alloc ?_ _)); exact BK227.out) hb); have n2_ := Aside0.mk (below_step (by repeat (first | (with_reducible first | exact HB.out | apply below_alloc | apply pw_below_drewN | apply below_drew1 | refine below_set ?_ GE226.out | refine below_set ?_ GE227.out) | exact HB.out)) hb); clear BK226; clear BK227; clear HB; have BK226 := n0_; have BK227 := n1_; have HB := n2_; clear n0_ n1_ n2_; (try clear hb); (try clear hb2); (try clear hk); (try clear hi); have hcz44_0 : w43.cell? ⟨gb226, 0, none⟩ = some (.string a0) := (blk_cell BK226.out 0).trans rfl; have hfz44_0 := blk_frozen BK226.out 0))
                    have n0_ := Aside0.mk (blk_drew BK226.out)
                    have n1_ := Aside0.mk (blk_drew BK227.out)
                    have n2_ := Aside0.mk (below_drew1 HB.out)
                    clear BK226
                    clear BK227
                    clear HB
                    have BK226 := n0_
                    have BK227 := n1_
                    have HB := n2_
                    clear n0_ n1_ n2_
                    refine start_ (n := 15) (S := fun w' => w'.cell? ⟨gb226, 0, none⟩ = some (.string a0)) (ds := []) zb1_Px22 (by kernel_rfl) rfl rfl ((blk_cell BK226.out 0).trans rfl) (fun hHeld => ?_); refine with_tabW exe_Of.tab11 exe_Of.bits11 (fun HT_ HW_ => ?_)
                    generalize w43.drew = w45 at BK226 BK227 HB hHeld ⊢
                    refine pure_ (i := 0) (N := some 40) (v := ?_) (a' := ?_) zb2_Px22 rfl rfl (any_of HT_.out (by kernel_rfl)) (fun _ _ _ h => h) (Or.inl ⟨by rfl, ?_⟩) ?_ ?_
                    rotate_left
                    · intro w'
                      go_simp
                      with_reducible rfl
                    rotate_left
                    · simp only [Act.put, List.setIfInBounds_toArray, List.set_cons_zero, List.set_cons_succ, i64_w, i32_w]
                      rfl
                    refine pure_ (i := 3) (N := some 43) (v := ?_) (a' := ?_) zb3_Px22 rfl rfl (any_of HT_.out (by kernel_rfl)) (fun _ _ _ h => h) (Or.inl ⟨by rfl, ?_⟩) ?_ ?_
                    rotate_left
                    · intro w'
                      go_simp
                      with_reducible rfl
                    rotate_left
                    · simp only [Act.put, List.setIfInBounds_toArray, List.set_cons_zero, List.set_cons_succ, i64_w, i32_w]
                      rfl
                    refine pure_ (i := 6) (N := some 46) (v := ?_) (a' := ?_) zb4_Px22 rfl rfl (any_of HT_.out (by kernel_rfl)) (fun _ _ _ h => h) (Or.inl ⟨by rfl, ?_⟩) ?_ ?_
                    rotate_left
                    · intro w'
                      go_simp
                      with_reducible rfl
                    rotate_left
                    · simp only [Act.put, List.setIfInBounds_toArray, List.set_cons_zero, List.set_cons_succ, i64_w, i32_w]
                      rfl
                    refine pure_ (i := 7) (N := some 47) (v := ?_) (a' := ?_) zb5_Px22 rfl rfl (any_of HT_.out (by kernel_rfl)) (fun _ _ _ h => h) (Or.inl ⟨by rfl, ?_⟩) ?_ ?_
                    rotate_left
                    · intro w'
                      go_simp
                      with_reducible rfl
                    rotate_left
                    · simp only [Act.put, List.setIfInBounds_toArray, List.set_cons_zero, List.set_cons_succ, i64_w, i32_w]
                      rfl
                    refine pure_ (i := 8) (N := some 48) (v := ?_) (a' := ?_) zb6_Px22 rfl rfl (any_of HT_.out (by kernel_rfl)) (fun _ _ _ h => h) (Or.inl ⟨by rfl, ?_⟩) ?_ ?_
                    rotate_left
                    · intro w'
                      go_simp
                      with_reducible rfl
                    rotate_left
                    · simp only [Act.put, List.setIfInBounds_toArray, List.set_cons_zero, List.set_cons_succ, i64_w, i32_w]
                      rfl
                    refine pure_ (i := 9) (N := some 49) (v := ?_) (a' := ?_) zb7_Px22 rfl rfl (any_of HT_.out (by kernel_rfl)) (fun _ _ _ h => h) (Or.inl ⟨by rfl, ?_⟩) ?_ ?_
                    rotate_left
                    · intro w'
                      go_simp
                      with_reducible rfl
                    rotate_left
                    · simp only [Act.put, List.setIfInBounds_toArray, List.set_cons_zero, List.set_cons_succ, i64_w, i32_w]
                      rfl
                    refine take_ (i := 5) (N := some 45) (v := ?_) (a' := ?_) zb8_Px22 rfl rfl (take_ofW HT_.out HW_.out (by kernel_rfl)) (fun _ _ _ h => h) (Or.inl ⟨by rfl, ?_⟩) hHeld ?_ ?_
                    rotate_left
                    · intro w' s0
                      go_simp
                      with_reducible rfl
                    rotate_left
                    · simp only [Act.put, List.setIfInBounds_toArray, List.set_cons_zero, List.set_cons_succ, i64_w, i32_w]
                      rfl
                    refine pure_ (i := 10) (N := some 50) (v := ?_) (a' := ?_) zb9_Px22 rfl rfl (any_of HT_.out (by kernel_rfl)) (fun _ _ _ h => h) (Or.inl ⟨by rfl, ?_⟩) ?_ ?_
                    rotate_left
                    · intro w'
                      go_simp
                      with_reducible rfl
                    rotate_left
                    · simp only [Act.put, List.setIfInBounds_toArray, List.set_cons_zero, List.set_cons_succ, i64_w, i32_w]
                      rfl
                    refine join_ (σ := Nat) 1 zb10_Px22 (fun s_ => [(41, .int .i64 t230), (44, .int .i64 t231), (51, .string t232), (9, .pointer (some ⟨s_, 0, none⟩)), (42, .int .u32 (IntKind.u32.wrap (t230))), (52, .agg #[.slice none 0 0, .string t232, .int .i64 t231, .int .u32 (IntKind.u32.wrap (t230))])]) (fun s_ w' => (w'.cell? ⟨gb226, 0, none⟩ = some (.string a0)) ∧ (w'.heap[gb226]? = some (.cells #[.string a0] 9 (0, 0))) ∧ (w'.heap[gb227]? = some (.cells #[.slice none 0 0, .string (⟨#[]⟩ : ByteArray), .int .i64 0, .int .u32 0] 25 (0, 0))) ∧ (w'.heap[s_]? = some (.cells #[.slice none 0 0, .string (⟨#[]⟩ : ByteArray), .int .i64 0, .int .u32 0] 25 (0, 0))) ∧ (w.heap.size ≤ s_) ∧ (w.heap.size ≤ s_) ∧ (gb226 ≠ s_) ∧ (s_ ≠ gb226) ∧ (gb227 ≠ s_) ∧ (s_ ≠ gb227) ∧ (Below w.heap.size w w')) ?_ ?_
                    rotate_left
                    · intro hCont
                      refine two_ (i := 1) (j := 13) (Ni := some 41) (Nj := some 9) zb11_Px22 zb12_Px22 rfl rfl rfl rfl (two_of HT_.out (by kernel_rfl)) (by decide) (by decide) (fun K hK => ?_) (fun K hK => ?_)
                      · skip
                        refine goesC_ #[.pointer (some ⟨gb226, 0, none⟩)] Try.func35 (by kernel_rfl) rfl #[.int .i64 4, .int .i64 4] #[.int .i64 4, .int .i64 4, .pointer (some ⟨gb226, 0, none⟩)] rfl (by rfl) rfl rfl rfl (by (try simp only [List.map_toArray, List.map_cons, List.map_nil]); first | done | rfl | (simp only [List.length_drop, List.length_take]; rfl)) ?_
                        with_reducible refine (exe_Of_1.calls 4 4 a0 t230 _ ?side1 A29.out).mono ?_
                        (case side1 => (with_reducible repeat (first | refine blk_drewN ?_ _ | refine blk_drew ?_ | refine blk_alloc ?_ _)); exact BK226.out)
                        rintro e w46 ⟨rfl, hb⟩
                        refine ⟨_, rfl, ?_⟩
                        have n0_ := Aside0.mk (blk_below (g := gb226) (o := .cells #[.string a0] 9 (0, 0)) (by (with_reducible repeat (first | refine blk_drewN ?_ _ | refine blk_drew ?_ | refine blk_alloc ?_ _)); exact BK226.out) hb)
                        have n1_ := Aside0.mk (blk_below (g := gb227) (o := .cells #[.slice none 0 0, .string (⟨#[]⟩ : ByteArray), .int .i64 0, .int .u32 0] 25 (0, 0)) (by (with_reducible repeat (first | refine blk_drewN ?_ _ | refine blk_drew ?_ | refine blk_alloc ?_ _)); exact BK227.out) hb)
                        have n2_ := Aside0.mk (below_step (by repeat (first | (with_reducible first | exact HB.out | apply below_alloc | apply pw_below_drewN | apply below_drew1 | refine below_set ?_ GE226.out | refine below_set ?_ GE227.out) | exact HB.out)) hb)
                        clear BK226
                        clear BK227
                        clear HB
                        have BK226 := n0_
                        have BK227 := n1_
                        have HB := n2_
                        clear n0_ n1_ n2_
                        (try clear hb)
                        (try clear hb2)
                        (try clear hk)
                        (try clear hi)
                        refine hK.out _ _ ((blk_cell BK226.out 0).trans rfl) (fun hHeld => ?_)
                        clear hK K
                        refine norm_ (a' := ?_) ?_ ?_
                        rotate_left
                        · show Act.put _ (some 41) _ = _
                          simp only [Act.put, List.setIfInBounds_toArray, List.set_cons_zero, List.set_cons_succ, i64_w, i32_w]
                          rfl
                        refine pure_ (i := 2) (N := some 42) (v := ?_) (a' := ?_) zb13_Px22 rfl rfl (any_of HT_.out (by kernel_rfl)) (fun _ _ _ h => h) (Or.inl ⟨by rfl, ?_⟩) ?_ ?_
                        rotate_left
                        · intro w'
                          go_simp
                          with_reducible rfl
                        rotate_left
                        · simp only [Act.put, List.setIfInBounds_toArray, List.set_cons_zero, List.set_cons_succ, i64_w, i32_w]
                          rfl
                        refine two_ (i := 4) (j := 13) (Ni := some 44) (Nj := some 9) zb14_Px22 zb15_Px22 rfl rfl rfl rfl (two_of HT_.out (by kernel_rfl)) (by decide) (by decide) (fun K hK => ?_) (fun K hK => ?_)
                        · skip
                          refine goesC_ #[.pointer (some ⟨gb226, 0, none⟩)] Try.func35 (by kernel_rfl) rfl #[.int .i64 12, .int .i64 2] #[.int .i64 12, .int .i64 2, .pointer (some ⟨gb226, 0, none⟩)] rfl (by rfl) rfl rfl rfl (by (try simp only [List.map_toArray, List.map_cons, List.map_nil]); first | done | rfl | (simp only [List.length_drop, List.length_take]; rfl)) ?_
                          with_reducible refine (exe_Of_1.calls 12 2 a0 t231 _ ?side1 A30.out).mono ?_
                          (case side1 => (with_reducible repeat (first | refine blk_drewN ?_ _ | refine blk_drew ?_ | refine blk_alloc ?_ _)); exact BK226.out)
                          rintro e w47 ⟨rfl, hb⟩
                          refine ⟨_, rfl, ?_⟩
                          have n0_ := Aside0.mk (blk_below (g := gb226) (o := .cells #[.string a0] 9 (0, 0)) (by (with_reducible repeat (first | refine blk_drewN ?_ _ | refine blk_drew ?_ | refine blk_alloc ?_ _)); exact BK226.out) hb)
                          have n1_ := Aside0.mk (blk_below (g := gb227) (o := .cells #[.slice none 0 0, .string (⟨#[]⟩ : ByteArray), .int .i64 0, .int .u32 0] 25 (0, 0)) (by (with_reducible repeat (first | refine blk_drewN ?_ _ | refine blk_drew ?_ | refine blk_alloc ?_ _)); exact BK227.out) hb)
                          have n2_ := Aside0.mk (below_step (by repeat (first | (with_reducible first | exact HB.out | apply below_alloc | apply pw_below_drewN | apply below_drew1 | refine below_set ?_ GE226.out | refine below_set ?_ GE227.out) | exact HB.out)) hb)
                          clear BK226
                          clear BK227
                          clear HB
                          have BK226 := n0_
                          have BK227 := n1_
                          have HB := n2_
                          clear n0_ n1_ n2_
                          (try clear hb)
                          (try clear hb2)
                          (try clear hk)
                          (try clear hi)
                          refine hK.out _ _ ((blk_cell BK226.out 0).trans rfl) (fun hHeld => ?_)
                          clear hK K
                          refine norm_ (a' := ?_) ?_ ?_
                          rotate_left
                          · show Act.put _ (some 44) _ = _
                            simp only [Act.put, List.setIfInBounds_toArray, List.set_cons_zero, List.set_cons_succ, i64_w, i32_w]
                            rfl
                          refine two_ (i := 11) (j := 13) (Ni := some 51) (Nj := some 9) zb16_Px22 zb17_Px22 rfl rfl rfl rfl (two_of HT_.out (by kernel_rfl)) (by decide) (by decide) (fun K hK => ?_) (fun K hK => ?_)
                          · skip
                            refine goes_ Try.func36 (by kernel_rfl) rfl #[.string (a0.extract ((ji31) : Int).toNat ((wrap64 ((wrap64 (14 + (wrap64 (4 * t228)))) + t229)) : Int).toNat)] (by rfl) rfl rfl (by (try simp only [List.map_toArray, List.map_cons, List.map_nil]); first | done | (simp only [hji31]; rfl) | rfl | (simp only [List.length_drop, List.length_take]; rfl)) ?_
                            with_reducible refine (strings_Clone.calls (a0.extract ((ji31) : Int).toNat ((wrap64 ((wrap64 (14 + (wrap64 (4 * t228)))) + t229)) : Int).toNat) t232 _ A35.out).mono ?_
                            rintro e w48 ⟨rfl, hb⟩
                            refine ⟨_, rfl, ?_⟩
                            have n0_ := Aside0.mk (blk_below (g := gb226) (o := .cells #[.string a0] 9 (0, 0)) (by (with_reducible repeat (first | refine blk_drewN ?_ _ | refine blk_drew ?_ | refine blk_alloc ?_ _)); exact BK226.out) hb)
                            have n1_ := Aside0.mk (blk_below (g := gb227) (o := .cells #[.slice none 0 0, .string (⟨#[]⟩ : ByteArray), .int .i64 0, .int .u32 0] 25 (0, 0)) (by (with_reducible repeat (first | refine blk_drewN ?_ _ | refine blk_drew ?_ | refine blk_alloc ?_ _)); exact BK227.out) hb)
                            have n2_ := Aside0.mk (below_step (by repeat (first | (with_reducible first | exact HB.out | apply below_alloc | apply pw_below_drewN | apply below_drew1 | refine below_set ?_ GE226.out | refine below_set ?_ GE227.out) | exact HB.out)) hb)
                            clear BK226
                            clear BK227
                            clear HB
                            have BK226 := n0_
                            have BK227 := n1_
                            have HB := n2_
                            clear n0_ n1_ n2_
                            (try clear hb)
                            (try clear hb2)
                            (try clear hk)
                            (try clear hi)
                            refine hK.out _ _ ((blk_cell BK226.out 0).trans rfl) (fun hHeld => ?_)
                            clear hK K
                            refine norm_ (a' := ?_) ?_ ?_
                            rotate_left
                            · show Act.put _ (some 51) _ = _
                              simp only [Act.put, List.setIfInBounds_toArray, List.set_cons_zero, List.set_cons_succ, i64_w, i32_w]
                              rfl
                            refine pure_ (i := 12) (N := some 52) (v := ?_) (a' := ?_) zb18_Px22 rfl rfl (any_of HT_.out (by kernel_rfl)) (fun _ _ _ h => h) (Or.inl ⟨by rfl, ?_⟩) ?_ ?_
                            rotate_left
                            · intro w'
                              go_simp
                              with_reducible rfl
                            rotate_left
                            · simp only [Act.put, List.setIfInBounds_toArray, List.set_cons_zero, List.set_cons_succ, i64_w, i32_w]
                              rfl
                            refine one_ (i := 13) (N := some 9) zb10_Px22 rfl rfl (one_of HT_.out (by kernel_rfl)) (by decide) (fun K hK => ?_)
                            refine box_step ?hg (N := 9) ?hd (cs := #[.slice none 0 0, .string (⟨#[]⟩ : ByteArray), .int .i64 0, .int .u32 0]) (t := 25) ?hr ?_; (case hd => rfl); (case hg => rfl); (case hr => first | (go_simp; done) | (go_simp; rfl))
                            intro gb233 hg w49 hbox hb
                            have n0_ := Aside0.mk (blk_below (g := gb226) (o := .cells #[.string a0] 9 (0, 0)) (by (with_reducible repeat (first | refine blk_drewN ?_ _ | refine blk_drew ?_ | refine blk_alloc ?_ _)); exact BK226.out) hb)
                            have n1_ := Aside0.mk (blk_below (g := gb227) (o := .cells #[.slice none 0 0, .string (⟨#[]⟩ : ByteArray), .int .i64 0, .int .u32 0] 25 (0, 0)) (by (with_reducible repeat (first | refine blk_drewN ?_ _ | refine blk_drew ?_ | refine blk_alloc ?_ _)); exact BK227.out) hb)
                            have n2_ := Aside0.mk (below_step (by repeat (first | (with_reducible first | exact HB.out | apply below_alloc | apply pw_below_drewN | apply below_drew1 | refine below_set ?_ GE226.out | refine below_set ?_ GE227.out) | exact HB.out)) hb)
                            have n3_ := Aside0.mk (hbox)
                            have n4_ := Aside0.mk ((by rw [hg]; exact (below_size (by repeat (first | (with_reducible first | exact HB.out | apply below_alloc | apply pw_below_drewN | apply below_drew1 | refine below_set ?_ GE226.out | refine below_set ?_ GE227.out) | exact HB.out))) : w.heap.size ≤ gb233))
                            have n5_ := Aside0.mk ((by rw [hg]; exact (below_size (by repeat (first | (with_reducible first | exact HB.out | apply below_alloc | apply pw_below_drewN | apply below_drew1 | refine below_set ?_ GE226.out | refine below_set ?_ GE227.out) | exact HB.out))) : w.heap.size ≤ gb233))
                            have n6_ := Aside0.mk ((by rw [hg]; exact Nat.ne_of_lt (blk_lt (g := gb226) (o := .cells #[.string a0] 9 (0, 0)) (by (with_reducible repeat (first | refine blk_drewN ?_ _ | refine blk_drew ?_ | refine blk_alloc ?_ _)); exact BK226.out)) : gb226 ≠ gb233))
                            have n7_ := Aside0.mk ((by rw [hg]; exact Nat.ne_of_gt (blk_lt (g := gb226) (o := .cells #[.string a0] 9 (0, 0)) (by (with_reducible repeat (first | refine blk_drewN ?_ _ | refine blk_drew ?_ | refine blk_alloc ?_ _)); exact BK226.out)) : gb233 ≠ gb226))
                            have n8_ := Aside0.mk ((by rw [hg]; exact Nat.ne_of_lt (blk_lt (g := gb227) (o := .cells #[.slice none 0 0, .string (⟨#[]⟩ : ByteArray), .int .i64 0, .int .u32 0] 25 (0, 0)) (by (with_reducible repeat (first | refine blk_drewN ?_ _ | refine blk_drew ?_ | refine blk_alloc ?_ _)); exact BK227.out)) : gb227 ≠ gb233))
                            have n9_ := Aside0.mk ((by rw [hg]; exact Nat.ne_of_gt (blk_lt (g := gb227) (o := .cells #[.slice none 0 0, .string (⟨#[]⟩ : ByteArray), .int .i64 0, .int .u32 0] 25 (0, 0)) (by (with_reducible repeat (first | refine blk_drewN ?_ _ | refine blk_drew ?_ | refine blk_alloc ?_ _)); exact BK227.out)) : gb233 ≠ gb227))
                            clear BK226
                            clear BK227
                            clear HB
                            have BK226 := n0_
                            have BK227 := n1_
                            have HB := n2_
                            have BK233 := n3_
                            have GW233 := n4_
                            have GE233 := n5_
                            have NB226_233 := n6_
                            have NB233_226 := n7_
                            have NB227_233 := n8_
                            have NB233_227 := n9_
                            clear n0_ n1_ n2_ n3_ n4_ n5_ n6_ n7_ n8_ n9_
                            clear hb hbox hg
                            refine hK.out _ _ ((blk_cell BK226.out 0).trans rfl) (fun hHeld => ?_)
                            clear hK K
                            refine norm_ (a' := ?_) ?_ ?_
                            rotate_left
                            · show Act.put _ (some 9) _ = _
                              simp only [Act.put, List.setIfInBounds_toArray, List.set_cons_zero, List.set_cons_succ, i64_w, i32_w]
                              rfl
                            exact norm_ (by simp only [putAll, Act.put, List.setIfInBounds_toArray, List.set_cons_zero, List.set_cons_succ]) (hCont (gb233) _ ⟨hHeld, (by (with_reducible repeat (first | refine blk_drewN ?_ _ | refine blk_drew ?_ | refine blk_alloc ?_ _)); exact BK226.out), (by (with_reducible repeat (first | refine blk_drewN ?_ _ | refine blk_drew ?_ | refine blk_alloc ?_ _)); exact BK227.out), (by (with_reducible repeat (first | refine blk_drewN ?_ _ | refine blk_drew ?_ | refine blk_alloc ?_ _)); exact BK233.out), GW233.out, GE233.out, NB226_233.out, NB233_226.out, NB227_233.out, NB233_227.out, (by repeat (first | (with_reducible first | exact HB.out | apply below_alloc | apply pw_below_drewN | apply below_drew1 | refine below_set ?_ GE226.out | refine below_set ?_ GE227.out | refine below_set ?_ GE233.out) | exact HB.out))⟩)
                          · skip
                            refine box_step ?hg (N := 9) ?hd (cs := #[.slice none 0 0, .string (⟨#[]⟩ : ByteArray), .int .i64 0, .int .u32 0]) (t := 25) ?hr ?_; (case hd => rfl); (case hg => rfl); (case hr => first | (go_simp; done) | (go_simp; rfl))
                            intro gb233 hg w48 hbox hb
                            have n0_ := Aside0.mk (blk_below (g := gb226) (o := .cells #[.string a0] 9 (0, 0)) (by (with_reducible repeat (first | refine blk_drewN ?_ _ | refine blk_drew ?_ | refine blk_alloc ?_ _)); exact BK226.out) hb)
                            have n1_ := Aside0.mk (blk_below (g := gb227) (o := .cells #[.slice none 0 0, .string (⟨#[]⟩ : ByteArray), .int .i64 0, .int .u32 0] 25 (0, 0)) (by (with_reducible repeat (first | refine blk_drewN ?_ _ | refine blk_drew ?_ | refine blk_alloc ?_ _)); exact BK227.out) hb)
                            have n2_ := Aside0.mk (below_step (by repeat (first | (with_reducible first | exact HB.out | apply below_alloc | apply pw_below_drewN | apply below_drew1 | refine below_set ?_ GE226.out | refine below_set ?_ GE227.out) | exact HB.out)) hb)
                            have n3_ := Aside0.mk (hbox)
                            have n4_ := Aside0.mk ((by rw [hg]; exact (below_size (by repeat (first | (with_reducible first | exact HB.out | apply below_alloc | apply pw_below_drewN | apply below_drew1 | refine below_set ?_ GE226.out | refine below_set ?_ GE227.out) | exact HB.out))) : w.heap.size ≤ gb233))
                            have n5_ := Aside0.mk ((by rw [hg]; exact (below_size (by repeat (first | (with_reducible first | exact HB.out | apply below_alloc | apply pw_below_drewN | apply below_drew1 | refine below_set ?_ GE226.out | refine below_set ?_ GE227.out) | exact HB.out))) : w.heap.size ≤ gb233))
                            have n6_ := Aside0.mk ((by rw [hg]; exact Nat.ne_of_lt (blk_lt (g := gb226) (o := .cells #[.string a0] 9 (0, 0)) (by (with_reducible repeat (first | refine blk_drewN ?_ _ | refine blk_drew ?_ | refine blk_alloc ?_ _)); exact BK226.out)) : gb226 ≠ gb233))
                            have n7_ := Aside0.mk ((by rw [hg]; exact Nat.ne_of_gt (blk_lt (g := gb226) (o := .cells #[.string a0] 9 (0, 0)) (by (with_reducible repeat (first | refine blk_drewN ?_ _ | refine blk_drew ?_ | refine blk_alloc ?_ _)); exact BK226.out)) : gb233 ≠ gb226))
                            have n8_ := Aside0.mk ((by rw [hg]; exact Nat.ne_of_lt (blk_lt (g := gb227) (o := .cells #[.slice none 0 0, .string (⟨#[]⟩ : ByteArray), .int .i64 0, .int .u32 0] 25 (0, 0)) (by (with_reducible repeat (first | refine blk_drewN ?_ _ | refine blk_drew ?_ | refine blk_alloc ?_ _)); exact BK227.out)) : gb227 ≠ gb233))
                            have n9_ := Aside0.mk ((by rw [hg]; exact Nat.ne_of_gt (blk_lt (g := gb227) (o := .cells #[.slice none 0 0, .string (⟨#[]⟩ : ByteArray), .int .i64 0, .int .u32 0] 25 (0, 0)) (by (with_reducible repeat (first | refine blk_drewN ?_ _ | refine blk_drew ?_ | refine blk_alloc ?_ _)); exact BK227.out)) : gb233 ≠ gb227))
                            clear BK226
                            clear BK227
                            clear HB
                            have BK226 := n0_
                            have BK227 := n1_
                            have HB := n2_
                            have BK233 := n3_
                            have GW233 := n4_
                            have GE233 := n5_
                            have NB226_233 := n6_
                            have NB233_226 := n7_
                            have NB227_233 := n8_
                            have NB233_227 := n9_
                            clear n0_ n1_ n2_ n3_ n4_ n5_ n6_ n7_ n8_ n9_
                            clear hb hbox hg
                            refine hK.out _ _ ((blk_cell BK226.out 0).trans rfl) (fun hHeld => ?_)
                            clear hK K
                            refine norm_ (a' := ?_) ?_ ?_
                            rotate_left
                            · show Act.put _ (some 9) _ = _
                              simp only [Act.put, List.setIfInBounds_toArray, List.set_cons_zero, List.set_cons_succ, i64_w, i32_w]
                              rfl
                            refine one_ (i := 11) (N := some 51) zb19_Px22 rfl rfl (one_of HT_.out (by kernel_rfl)) (by decide) (fun K hK => ?_)
                            refine goes_ Try.func36 (by kernel_rfl) rfl #[.string (a0.extract ((ji31) : Int).toNat ((wrap64 ((wrap64 (14 + (wrap64 (4 * t228)))) + t229)) : Int).toNat)] (by rfl) rfl rfl (by (try simp only [List.map_toArray, List.map_cons, List.map_nil]); first | done | (simp only [hji31]; rfl) | rfl | (simp only [List.length_drop, List.length_take]; rfl)) ?_
                            with_reducible refine (strings_Clone.calls (a0.extract ((ji31) : Int).toNat ((wrap64 ((wrap64 (14 + (wrap64 (4 * t228)))) + t229)) : Int).toNat) t232 _ A35.out).mono ?_
                            rintro e w49 ⟨rfl, hb⟩
                            refine ⟨_, rfl, ?_⟩
                            have n0_ := Aside0.mk (blk_below (g := gb226) (o := .cells #[.string a0] 9 (0, 0)) (by (with_reducible repeat (first | refine blk_drewN ?_ _ | refine blk_drew ?_ | refine blk_alloc ?_ _)); exact BK226.out) hb)
                            have n1_ := Aside0.mk (blk_below (g := gb227) (o := .cells #[.slice none 0 0, .string (⟨#[]⟩ : ByteArray), .int .i64 0, .int .u32 0] 25 (0, 0)) (by (with_reducible repeat (first | refine blk_drewN ?_ _ | refine blk_drew ?_ | refine blk_alloc ?_ _)); exact BK227.out) hb)
                            have n2_ := Aside0.mk (blk_below (g := gb233) (o := .cells #[.slice none 0 0, .string (⟨#[]⟩ : ByteArray), .int .i64 0, .int .u32 0] 25 (0, 0)) (by (with_reducible repeat (first | refine blk_drewN ?_ _ | refine blk_drew ?_ | refine blk_alloc ?_ _)); exact BK233.out) hb)
                            have n3_ := Aside0.mk (below_step (by repeat (first | (with_reducible first | exact HB.out | apply below_alloc | apply pw_below_drewN | apply below_drew1 | refine below_set ?_ GE226.out | refine below_set ?_ GE227.out | refine below_set ?_ GE233.out) | exact HB.out)) hb)
                            clear BK226
                            clear BK227
                            clear BK233
                            clear HB
                            have BK226 := n0_
                            have BK227 := n1_
                            have BK233 := n2_
                            have HB := n3_
                            clear n0_ n1_ n2_ n3_
                            (try clear hb)
                            (try clear hb2)
                            (try clear hk)
                            (try clear hi)
                            refine hK.out _ _ ((blk_cell BK226.out 0).trans rfl) (fun hHeld => ?_)
                            clear hK K
                            refine norm_ (a' := ?_) ?_ ?_
                            rotate_left
                            · show Act.put _ (some 51) _ = _
                              simp only [Act.put, List.setIfInBounds_toArray, List.set_cons_zero, List.set_cons_succ, i64_w, i32_w]
                              rfl
                            refine pure_ (i := 12) (N := some 52) (v := ?_) (a' := ?_) zb10_Px22 rfl rfl (any_of HT_.out (by kernel_rfl)) (fun _ _ _ h => h) (Or.inl ⟨by rfl, ?_⟩) ?_ ?_
                            rotate_left
                            · intro w'
                              go_simp
                              with_reducible rfl
                            rotate_left
                            · simp only [Act.put, List.setIfInBounds_toArray, List.set_cons_zero, List.set_cons_succ, i64_w, i32_w]
                              rfl
                            exact norm_ (by simp only [putAll, Act.put, List.setIfInBounds_toArray, List.set_cons_zero, List.set_cons_succ]) (hCont (gb233) _ ⟨hHeld, (by (with_reducible repeat (first | refine blk_drewN ?_ _ | refine blk_drew ?_ | refine blk_alloc ?_ _)); exact BK226.out), (by (with_reducible repeat (first | refine blk_drewN ?_ _ | refine blk_drew ?_ | refine blk_alloc ?_ _)); exact BK227.out), (by (with_reducible repeat (first | refine blk_drewN ?_ _ | refine blk_drew ?_ | refine blk_alloc ?_ _)); exact BK233.out), GW233.out, GE233.out, NB226_233.out, NB233_226.out, NB227_233.out, NB233_227.out, (by repeat (first | (with_reducible first | exact HB.out | apply below_alloc | apply pw_below_drewN | apply below_drew1 | refine below_set ?_ GE226.out | refine below_set ?_ GE227.out | refine below_set ?_ GE233.out) | exact HB.out))⟩)
                        · skip
                          refine box_step ?hg (N := 9) ?hd (cs := #[.slice none 0 0, .string (⟨#[]⟩ : ByteArray), .int .i64 0, .int .u32 0]) (t := 25) ?hr ?_; (case hd => rfl); (case hg => rfl); (case hr => first | (go_simp; done) | (go_simp; rfl))
                          intro gb233 hg w47 hbox hb
                          have n0_ := Aside0.mk (blk_below (g := gb226) (o := .cells #[.string a0] 9 (0, 0)) (by (with_reducible repeat (first | refine blk_drewN ?_ _ | refine blk_drew ?_ | refine blk_alloc ?_ _)); exact BK226.out) hb)
                          have n1_ := Aside0.mk (blk_below (g := gb227) (o := .cells #[.slice none 0 0, .string (⟨#[]⟩ : ByteArray), .int .i64 0, .int .u32 0] 25 (0, 0)) (by (with_reducible repeat (first | refine blk_drewN ?_ _ | refine blk_drew ?_ | refine blk_alloc ?_ _)); exact BK227.out) hb)
                          have n2_ := Aside0.mk (below_step (by repeat (first | (with_reducible first | exact HB.out | apply below_alloc | apply pw_below_drewN | apply below_drew1 | refine below_set ?_ GE226.out | refine below_set ?_ GE227.out) | exact HB.out)) hb)
                          have n3_ := Aside0.mk (hbox)
                          have n4_ := Aside0.mk ((by rw [hg]; exact (below_size (by repeat (first | (with_reducible first | exact HB.out | apply below_alloc | apply pw_below_drewN | apply below_drew1 | refine below_set ?_ GE226.out | refine below_set ?_ GE227.out) | exact HB.out))) : w.heap.size ≤ gb233))
                          have n5_ := Aside0.mk ((by rw [hg]; exact (below_size (by repeat (first | (with_reducible first | exact HB.out | apply below_alloc | apply pw_below_drewN | apply below_drew1 | refine below_set ?_ GE226.out | refine below_set ?_ GE227.out) | exact HB.out))) : w.heap.size ≤ gb233))
                          have n6_ := Aside0.mk ((by rw [hg]; exact Nat.ne_of_lt (blk_lt (g := gb226) (o := .cells #[.string a0] 9 (0, 0)) (by (with_reducible repeat (first | refine blk_drewN ?_ _ | refine blk_drew ?_ | refine blk_alloc ?_ _)); exact BK226.out)) : gb226 ≠ gb233))
                          have n7_ := Aside0.mk ((by rw [hg]; exact Nat.ne_of_gt (blk_lt (g := gb226) (o := .cells #[.string a0] 9 (0, 0)) (by (with_reducible repeat (first | refine blk_drewN ?_ _ | refine blk_drew ?_ | refine blk_alloc ?_ _)); exact BK226.out)) : gb233 ≠ gb226))
                          have n8_ := Aside0.mk ((by rw [hg]; exact Nat.ne_of_lt (blk_lt (g := gb227) (o := .cells #[.slice none 0 0, .string (⟨#[]⟩ : ByteArray), .int .i64 0, .int .u32 0] 25 (0, 0)) (by (with_reducible repeat (first | refine blk_drewN ?_ _ | refine blk_drew ?_ | refine blk_alloc ?_ _)); exact BK227.out)) : gb227 ≠ gb233))
                          have n9_ := Aside0.mk ((by rw [hg]; exact Nat.ne_of_gt (blk_lt (g := gb227) (o := .cells #[.slice none 0 0, .string (⟨#[]⟩ : ByteArray), .int .i64 0, .int .u32 0] 25 (0, 0)) (by (with_reducible repeat (first | refine blk_drewN ?_ _ | refine blk_drew ?_ | refine blk_alloc ?_ _)); exact BK227.out)) : gb233 ≠ gb227))
                          clear BK226
                          clear BK227
                          clear HB
                          have BK226 := n0_
                          have BK227 := n1_
                          have HB := n2_
                          have BK233 := n3_
                          have GW233 := n4_
                          have GE233 := n5_
                          have NB226_233 := n6_
                          have NB233_226 := n7_
                          have NB227_233 := n8_
                          have NB233_227 := n9_
                          clear n0_ n1_ n2_ n3_ n4_ n5_ n6_ n7_ n8_ n9_
                          clear hb hbox hg
                          refine hK.out _ _ ((blk_cell BK226.out 0).trans rfl) (fun hHeld => ?_)
                          clear hK K
                          refine norm_ (a' := ?_) ?_ ?_
                          rotate_left
                          · show Act.put _ (some 9) _ = _
                            simp only [Act.put, List.setIfInBounds_toArray, List.set_cons_zero, List.set_cons_succ, i64_w, i32_w]
                            rfl
                          refine one_ (i := 4) (N := some 44) zb17_Px22 rfl rfl (one_of HT_.out (by kernel_rfl)) (by decide) (fun K hK => ?_)
                          refine goesC_ #[.pointer (some ⟨gb226, 0, none⟩)] Try.func35 (by kernel_rfl) rfl #[.int .i64 12, .int .i64 2] #[.int .i64 12, .int .i64 2, .pointer (some ⟨gb226, 0, none⟩)] rfl (by rfl) rfl rfl rfl (by (try simp only [List.map_toArray, List.map_cons, List.map_nil]); first | done | rfl | (simp only [List.length_drop, List.length_take]; rfl)) ?_
                          with_reducible refine (exe_Of_1.calls 12 2 a0 t231 _ ?side1 A30.out).mono ?_
                          (case side1 => (with_reducible repeat (first | refine blk_drewN ?_ _ | refine blk_drew ?_ | refine blk_alloc ?_ _)); exact BK226.out)
                          rintro e w48 ⟨rfl, hb⟩
                          refine ⟨_, rfl, ?_⟩
                          have n0_ := Aside0.mk (blk_below (g := gb226) (o := .cells #[.string a0] 9 (0, 0)) (by (with_reducible repeat (first | refine blk_drewN ?_ _ | refine blk_drew ?_ | refine blk_alloc ?_ _)); exact BK226.out) hb)
                          have n1_ := Aside0.mk (blk_below (g := gb227) (o := .cells #[.slice none 0 0, .string (⟨#[]⟩ : ByteArray), .int .i64 0, .int .u32 0] 25 (0, 0)) (by (with_reducible repeat (first | refine blk_drewN ?_ _ | refine blk_drew ?_ | refine blk_alloc ?_ _)); exact BK227.out) hb)
                          have n2_ := Aside0.mk (blk_below (g := gb233) (o := .cells #[.slice none 0 0, .string (⟨#[]⟩ : ByteArray), .int .i64 0, .int .u32 0] 25 (0, 0)) (by (with_reducible repeat (first | refine blk_drewN ?_ _ | refine blk_drew ?_ | refine blk_alloc ?_ _)); exact BK233.out) hb)
                          have n3_ := Aside0.mk (below_step (by repeat (first | (with_reducible first | exact HB.out | apply below_alloc | apply pw_below_drewN | apply below_drew1 | refine below_set ?_ GE226.out | refine below_set ?_ GE227.out | refine below_set ?_ GE233.out) | exact HB.out)) hb)
                          clear BK226
                          clear BK227
                          clear BK233
                          clear HB
                          have BK226 := n0_
                          have BK227 := n1_
                          have BK233 := n2_
                          have HB := n3_
                          clear n0_ n1_ n2_ n3_
                          (try clear hb)
                          (try clear hb2)
                          (try clear hk)
                          (try clear hi)
                          refine hK.out _ _ ((blk_cell BK226.out 0).trans rfl) (fun hHeld => ?_)
                          clear hK K
                          refine norm_ (a' := ?_) ?_ ?_
                          rotate_left
                          · show Act.put _ (some 44) _ = _
                            simp only [Act.put, List.setIfInBounds_toArray, List.set_cons_zero, List.set_cons_succ, i64_w, i32_w]
                            rfl
                          refine one_ (i := 11) (N := some 51) zb19_Px22 rfl rfl (one_of HT_.out (by kernel_rfl)) (by decide) (fun K hK => ?_)
                          refine goes_ Try.func36 (by kernel_rfl) rfl #[.string (a0.extract ((ji31) : Int).toNat ((wrap64 ((wrap64 (14 + (wrap64 (4 * t228)))) + t229)) : Int).toNat)] (by rfl) rfl rfl (by (try simp only [List.map_toArray, List.map_cons, List.map_nil]); first | done | (simp only [hji31]; rfl) | rfl | (simp only [List.length_drop, List.length_take]; rfl)) ?_
                          with_reducible refine (strings_Clone.calls (a0.extract ((ji31) : Int).toNat ((wrap64 ((wrap64 (14 + (wrap64 (4 * t228)))) + t229)) : Int).toNat) t232 _ A35.out).mono ?_
                          rintro e w49 ⟨rfl, hb⟩
                          refine ⟨_, rfl, ?_⟩
                          have n0_ := Aside0.mk (blk_below (g := gb226) (o := .cells #[.string a0] 9 (0, 0)) (by (with_reducible repeat (first | refine blk_drewN ?_ _ | refine blk_drew ?_ | refine blk_alloc ?_ _)); exact BK226.out) hb)
                          have n1_ := Aside0.mk (blk_below (g := gb227) (o := .cells #[.slice none 0 0, .string (⟨#[]⟩ : ByteArray), .int .i64 0, .int .u32 0] 25 (0, 0)) (by (with_reducible repeat (first | refine blk_drewN ?_ _ | refine blk_drew ?_ | refine blk_alloc ?_ _)); exact BK227.out) hb)
                          have n2_ := Aside0.mk (blk_below (g := gb233) (o := .cells #[.slice none 0 0, .string (⟨#[]⟩ : ByteArray), .int .i64 0, .int .u32 0] 25 (0, 0)) (by (with_reducible repeat (first | refine blk_drewN ?_ _ | refine blk_drew ?_ | refine blk_alloc ?_ _)); exact BK233.out) hb)
                          have n3_ := Aside0.mk (below_step (by repeat (first | (with_reducible first | exact HB.out | apply below_alloc | apply pw_below_drewN | apply below_drew1 | refine below_set ?_ GE226.out | refine below_set ?_ GE227.out | refine below_set ?_ GE233.out) | exact HB.out)) hb)
                          clear BK226
                          clear BK227
                          clear BK233
                          clear HB
                          have BK226 := n0_
                          have BK227 := n1_
                          have BK233 := n2_
                          have HB := n3_
                          clear n0_ n1_ n2_ n3_
                          (try clear hb)
                          (try clear hb2)
                          (try clear hk)
                          (try clear hi)
                          refine hK.out _ _ ((blk_cell BK226.out 0).trans rfl) (fun hHeld => ?_)
                          clear hK K
                          refine norm_ (a' := ?_) ?_ ?_
                          rotate_left
                          · show Act.put _ (some 51) _ = _
                            simp only [Act.put, List.setIfInBounds_toArray, List.set_cons_zero, List.set_cons_succ, i64_w, i32_w]
                            rfl
                          refine pure_ (i := 12) (N := some 52) (v := ?_) (a' := ?_) zb10_Px22 rfl rfl (any_of HT_.out (by kernel_rfl)) (fun _ _ _ h => h) (Or.inl ⟨by rfl, ?_⟩) ?_ ?_
                          rotate_left
                          · intro w'
                            go_simp
                            with_reducible rfl
                          rotate_left
                          · simp only [Act.put, List.setIfInBounds_toArray, List.set_cons_zero, List.set_cons_succ, i64_w, i32_w]
                            rfl
                          exact norm_ (by simp only [putAll, Act.put, List.setIfInBounds_toArray, List.set_cons_zero, List.set_cons_succ]) (hCont (gb233) _ ⟨hHeld, (by (with_reducible repeat (first | refine blk_drewN ?_ _ | refine blk_drew ?_ | refine blk_alloc ?_ _)); exact BK226.out), (by (with_reducible repeat (first | refine blk_drewN ?_ _ | refine blk_drew ?_ | refine blk_alloc ?_ _)); exact BK227.out), (by (with_reducible repeat (first | refine blk_drewN ?_ _ | refine blk_drew ?_ | refine blk_alloc ?_ _)); exact BK233.out), GW233.out, GE233.out, NB226_233.out, NB233_226.out, NB227_233.out, NB233_227.out, (by repeat (first | (with_reducible first | exact HB.out | apply below_alloc | apply pw_below_drewN | apply below_drew1 | refine below_set ?_ GE226.out | refine below_set ?_ GE227.out | refine below_set ?_ GE233.out) | exact HB.out))⟩)
                      · skip
                        refine box_step ?hg (N := 9) ?hd (cs := #[.slice none 0 0, .string (⟨#[]⟩ : ByteArray), .int .i64 0, .int .u32 0]) (t := 25) ?hr ?_; (case hd => rfl); (case hg => rfl); (case hr => first | (go_simp; done) | (go_simp; rfl))
                        intro gb233 hg w46 hbox hb
                        have n0_ := Aside0.mk (blk_below (g := gb226) (o := .cells #[.string a0] 9 (0, 0)) (by (with_reducible repeat (first | refine blk_drewN ?_ _ | refine blk_drew ?_ | refine blk_alloc ?_ _)); exact BK226.out) hb)
                        have n1_ := Aside0.mk (blk_below (g := gb227) (o := .cells #[.slice none 0 0, .string (⟨#[]⟩ : ByteArray), .int .i64 0, .int .u32 0] 25 (0, 0)) (by (with_reducible repeat (first | refine blk_drewN ?_ _ | refine blk_drew ?_ | refine blk_alloc ?_ _)); exact BK227.out) hb)
                        have n2_ := Aside0.mk (below_step (by repeat (first | (with_reducible first | exact HB.out | apply below_alloc | apply pw_below_drewN | apply below_drew1 | refine below_set ?_ GE226.out | refine below_set ?_ GE227.out) | exact HB.out)) hb)
                        have n3_ := Aside0.mk (hbox)
                        have n4_ := Aside0.mk ((by rw [hg]; exact (below_size (by repeat (first | (with_reducible first | exact HB.out | apply below_alloc | apply pw_below_drewN | apply below_drew1 | refine below_set ?_ GE226.out | refine below_set ?_ GE227.out) | exact HB.out))) : w.heap.size ≤ gb233))
                        have n5_ := Aside0.mk ((by rw [hg]; exact (below_size (by repeat (first | (with_reducible first | exact HB.out | apply below_alloc | apply pw_below_drewN | apply below_drew1 | refine below_set ?_ GE226.out | refine below_set ?_ GE227.out) | exact HB.out))) : w.heap.size ≤ gb233))
                        have n6_ := Aside0.mk ((by rw [hg]; exact Nat.ne_of_lt (blk_lt (g := gb226) (o := .cells #[.string a0] 9 (0, 0)) (by (with_reducible repeat (first | refine blk_drewN ?_ _ | refine blk_drew ?_ | refine blk_alloc ?_ _)); exact BK226.out)) : gb226 ≠ gb233))
                        have n7_ := Aside0.mk ((by rw [hg]; exact Nat.ne_of_gt (blk_lt (g := gb226) (o := .cells #[.string a0] 9 (0, 0)) (by (with_reducible repeat (first | refine blk_drewN ?_ _ | refine blk_drew ?_ | refine blk_alloc ?_ _)); exact BK226.out)) : gb233 ≠ gb226))
                        have n8_ := Aside0.mk ((by rw [hg]; exact Nat.ne_of_lt (blk_lt (g := gb227) (o := .cells #[.slice none 0 0, .string (⟨#[]⟩ : ByteArray), .int .i64 0, .int .u32 0] 25 (0, 0)) (by (with_reducible repeat (first | refine blk_drewN ?_ _ | refine blk_drew ?_ | refine blk_alloc ?_ _)); exact BK227.out)) : gb227 ≠ gb233))
                        have n9_ := Aside0.mk ((by rw [hg]; exact Nat.ne_of_gt (blk_lt (g := gb227) (o := .cells #[.slice none 0 0, .string (⟨#[]⟩ : ByteArray), .int .i64 0, .int .u32 0] 25 (0, 0)) (by (with_reducible repeat (first | refine blk_drewN ?_ _ | refine blk_drew ?_ | refine blk_alloc ?_ _)); exact BK227.out)) : gb233 ≠ gb227))
                        clear BK226
                        clear BK227
                        clear HB
                        have BK226 := n0_
                        have BK227 := n1_
                        have HB := n2_
                        have BK233 := n3_
                        have GW233 := n4_
                        have GE233 := n5_
                        have NB226_233 := n6_
                        have NB233_226 := n7_
                        have NB227_233 := n8_
                        have NB233_227 := n9_
                        clear n0_ n1_ n2_ n3_ n4_ n5_ n6_ n7_ n8_ n9_
                        clear hb hbox hg
                        refine hK.out _ _ ((blk_cell BK226.out 0).trans rfl) (fun hHeld => ?_)
                        clear hK K
                        refine norm_ (a' := ?_) ?_ ?_
                        rotate_left
                        · show Act.put _ (some 9) _ = _
                          simp only [Act.put, List.setIfInBounds_toArray, List.set_cons_zero, List.set_cons_succ, i64_w, i32_w]
                          rfl
                        refine one_ (i := 1) (N := some 41) zb20_Px22 rfl rfl (one_of HT_.out (by kernel_rfl)) (by decide) (fun K hK => ?_)
                        refine goesC_ #[.pointer (some ⟨gb226, 0, none⟩)] Try.func35 (by kernel_rfl) rfl #[.int .i64 4, .int .i64 4] #[.int .i64 4, .int .i64 4, .pointer (some ⟨gb226, 0, none⟩)] rfl (by rfl) rfl rfl rfl (by (try simp only [List.map_toArray, List.map_cons, List.map_nil]); first | done | rfl | (simp only [List.length_drop, List.length_take]; rfl)) ?_
                        with_reducible refine (exe_Of_1.calls 4 4 a0 t230 _ ?side1 A29.out).mono ?_
                        (case side1 => (with_reducible repeat (first | refine blk_drewN ?_ _ | refine blk_drew ?_ | refine blk_alloc ?_ _)); exact BK226.out)
                        rintro e w47 ⟨rfl, hb⟩
                        refine ⟨_, rfl, ?_⟩
                        have n0_ := Aside0.mk (blk_below (g := gb226) (o := .cells #[.string a0] 9 (0, 0)) (by (with_reducible repeat (first | refine blk_drewN ?_ _ | refine blk_drew ?_ | refine blk_alloc ?_ _)); exact BK226.out) hb)
                        have n1_ := Aside0.mk (blk_below (g := gb227) (o := .cells #[.slice none 0 0, .string (⟨#[]⟩ : ByteArray), .int .i64 0, .int .u32 0] 25 (0, 0)) (by (with_reducible repeat (first | refine blk_drewN ?_ _ | refine blk_drew ?_ | refine blk_alloc ?_ _)); exact BK227.out) hb)
                        have n2_ := Aside0.mk (blk_below (g := gb233) (o := .cells #[.slice none 0 0, .string (⟨#[]⟩ : ByteArray), .int .i64 0, .int .u32 0] 25 (0, 0)) (by (with_reducible repeat (first | refine blk_drewN ?_ _ | refine blk_drew ?_ | refine blk_alloc ?_ _)); exact BK233.out) hb)
                        have n3_ := Aside0.mk (below_step (by repeat (first | (with_reducible first | exact HB.out | apply below_alloc | apply pw_below_drewN | apply below_drew1 | refine below_set ?_ GE226.out | refine below_set ?_ GE227.out | refine below_set ?_ GE233.out) | exact HB.out)) hb)
                        clear BK226
                        clear BK227
                        clear BK233
                        clear HB
                        have BK226 := n0_
                        have BK227 := n1_
                        have BK233 := n2_
                        have HB := n3_
                        clear n0_ n1_ n2_ n3_
                        (try clear hb)
                        (try clear hb2)
                        (try clear hk)
                        (try clear hi)
                        refine hK.out _ _ ((blk_cell BK226.out 0).trans rfl) (fun hHeld => ?_)
                        clear hK K
                        refine norm_ (a' := ?_) ?_ ?_
                        rotate_left
                        · show Act.put _ (some 41) _ = _
                          simp only [Act.put, List.setIfInBounds_toArray, List.set_cons_zero, List.set_cons_succ, i64_w, i32_w]
                          rfl
                        refine pure_ (i := 2) (N := some 42) (v := ?_) (a' := ?_) zb15_Px22 rfl rfl (any_of HT_.out (by kernel_rfl)) (fun _ _ _ h => h) (Or.inl ⟨by rfl, ?_⟩) ?_ ?_
                        rotate_left
                        · intro w'
                          go_simp
                          with_reducible rfl
                        rotate_left
                        · simp only [Act.put, List.setIfInBounds_toArray, List.set_cons_zero, List.set_cons_succ, i64_w, i32_w]
                          rfl
                        refine one_ (i := 4) (N := some 44) zb17_Px22 rfl rfl (one_of HT_.out (by kernel_rfl)) (by decide) (fun K hK => ?_)
                        refine goesC_ #[.pointer (some ⟨gb226, 0, none⟩)] Try.func35 (by kernel_rfl) rfl #[.int .i64 12, .int .i64 2] #[.int .i64 12, .int .i64 2, .pointer (some ⟨gb226, 0, none⟩)] rfl (by rfl) rfl rfl rfl (by (try simp only [List.map_toArray, List.map_cons, List.map_nil]); first | done | rfl | (simp only [List.length_drop, List.length_take]; rfl)) ?_
                        with_reducible refine (exe_Of_1.calls 12 2 a0 t231 _ ?side1 A30.out).mono ?_
                        (case side1 => (with_reducible repeat (first | refine blk_drewN ?_ _ | refine blk_drew ?_ | refine blk_alloc ?_ _)); exact BK226.out)
                        rintro e w48 ⟨rfl, hb⟩
                        refine ⟨_, rfl, ?_⟩
                        have n0_ := Aside0.mk (blk_below (g := gb226) (o := .cells #[.string a0] 9 (0, 0)) (by (with_reducible repeat (first | refine blk_drewN ?_ _ | refine blk_drew ?_ | refine blk_alloc ?_ _)); exact BK226.out) hb)
                        have n1_ := Aside0.mk (blk_below (g := gb227) (o := .cells #[.slice none 0 0, .string (⟨#[]⟩ : ByteArray), .int .i64 0, .int .u32 0] 25 (0, 0)) (by (with_reducible repeat (first | refine blk_drewN ?_ _ | refine blk_drew ?_ | refine blk_alloc ?_ _)); exact BK227.out) hb)
                        have n2_ := Aside0.mk (blk_below (g := gb233) (o := .cells #[.slice none 0 0, .string (⟨#[]⟩ : ByteArray), .int .i64 0, .int .u32 0] 25 (0, 0)) (by (with_reducible repeat (first | refine blk_drewN ?_ _ | refine blk_drew ?_ | refine blk_alloc ?_ _)); exact BK233.out) hb)
                        have n3_ := Aside0.mk (below_step (by repeat (first | (with_reducible first | exact HB.out | apply below_alloc | apply pw_below_drewN | apply below_drew1 | refine below_set ?_ GE226.out | refine below_set ?_ GE227.out | refine below_set ?_ GE233.out) | exact HB.out)) hb)
                        clear BK226
                        clear BK227
                        clear BK233
                        clear HB
                        have BK226 := n0_
                        have BK227 := n1_
                        have BK233 := n2_
                        have HB := n3_
                        clear n0_ n1_ n2_ n3_
                        (try clear hb)
                        (try clear hb2)
                        (try clear hk)
                        (try clear hi)
                        refine hK.out _ _ ((blk_cell BK226.out 0).trans rfl) (fun hHeld => ?_)
                        clear hK K
                        refine norm_ (a' := ?_) ?_ ?_
                        rotate_left
                        · show Act.put _ (some 44) _ = _
                          simp only [Act.put, List.setIfInBounds_toArray, List.set_cons_zero, List.set_cons_succ, i64_w, i32_w]
                          rfl
                        refine one_ (i := 11) (N := some 51) zb19_Px22 rfl rfl (one_of HT_.out (by kernel_rfl)) (by decide) (fun K hK => ?_)
                        refine goes_ Try.func36 (by kernel_rfl) rfl #[.string (a0.extract ((ji31) : Int).toNat ((wrap64 ((wrap64 (14 + (wrap64 (4 * t228)))) + t229)) : Int).toNat)] (by rfl) rfl rfl (by (try simp only [List.map_toArray, List.map_cons, List.map_nil]); first | done | (simp only [hji31]; rfl) | rfl | (simp only [List.length_drop, List.length_take]; rfl)) ?_
                        with_reducible refine (strings_Clone.calls (a0.extract ((ji31) : Int).toNat ((wrap64 ((wrap64 (14 + (wrap64 (4 * t228)))) + t229)) : Int).toNat) t232 _ A35.out).mono ?_
                        rintro e w49 ⟨rfl, hb⟩
                        refine ⟨_, rfl, ?_⟩
                        have n0_ := Aside0.mk (blk_below (g := gb226) (o := .cells #[.string a0] 9 (0, 0)) (by (with_reducible repeat (first | refine blk_drewN ?_ _ | refine blk_drew ?_ | refine blk_alloc ?_ _)); exact BK226.out) hb)
                        have n1_ := Aside0.mk (blk_below (g := gb227) (o := .cells #[.slice none 0 0, .string (⟨#[]⟩ : ByteArray), .int .i64 0, .int .u32 0] 25 (0, 0)) (by (with_reducible repeat (first | refine blk_drewN ?_ _ | refine blk_drew ?_ | refine blk_alloc ?_ _)); exact BK227.out) hb)
                        have n2_ := Aside0.mk (blk_below (g := gb233) (o := .cells #[.slice none 0 0, .string (⟨#[]⟩ : ByteArray), .int .i64 0, .int .u32 0] 25 (0, 0)) (by (with_reducible repeat (first | refine blk_drewN ?_ _ | refine blk_drew ?_ | refine blk_alloc ?_ _)); exact BK233.out) hb)
                        have n3_ := Aside0.mk (below_step (by repeat (first | (with_reducible first | exact HB.out | apply below_alloc | apply pw_below_drewN | apply below_drew1 | refine below_set ?_ GE226.out | refine below_set ?_ GE227.out | refine below_set ?_ GE233.out) | exact HB.out)) hb)
                        clear BK226
                        clear BK227
                        clear BK233
                        clear HB
                        have BK226 := n0_
                        have BK227 := n1_
                        have BK233 := n2_
                        have HB := n3_
                        clear n0_ n1_ n2_ n3_
                        (try clear hb)
                        (try clear hb2)
                        (try clear hk)
                        (try clear hi)
                        refine hK.out _ _ ((blk_cell BK226.out 0).trans rfl) (fun hHeld => ?_)
                        clear hK K
                        refine norm_ (a' := ?_) ?_ ?_
                        rotate_left
                        · show Act.put _ (some 51) _ = _
                          simp only [Act.put, List.setIfInBounds_toArray, List.set_cons_zero, List.set_cons_succ, i64_w, i32_w]
                          rfl
                        refine pure_ (i := 12) (N := some 52) (v := ?_) (a' := ?_) zb10_Px22 rfl rfl (any_of HT_.out (by kernel_rfl)) (fun _ _ _ h => h) (Or.inl ⟨by rfl, ?_⟩) ?_ ?_
                        rotate_left
                        · intro w'
                          go_simp
                          with_reducible rfl
                        rotate_left
                        · simp only [Act.put, List.setIfInBounds_toArray, List.set_cons_zero, List.set_cons_succ, i64_w, i32_w]
                          rfl
                        exact norm_ (by simp only [putAll, Act.put, List.setIfInBounds_toArray, List.set_cons_zero, List.set_cons_succ]) (hCont (gb233) _ ⟨hHeld, (by (with_reducible repeat (first | refine blk_drewN ?_ _ | refine blk_drew ?_ | refine blk_alloc ?_ _)); exact BK226.out), (by (with_reducible repeat (first | refine blk_drewN ?_ _ | refine blk_drew ?_ | refine blk_alloc ?_ _)); exact BK227.out), (by (with_reducible repeat (first | refine blk_drewN ?_ _ | refine blk_drew ?_ | refine blk_alloc ?_ _)); exact BK233.out), GW233.out, GE233.out, NB226_233.out, NB233_226.out, NB227_233.out, NB233_227.out, (by repeat (first | (with_reducible first | exact HB.out | apply below_alloc | apply pw_below_drewN | apply below_drew1 | refine below_set ?_ GE226.out | refine below_set ?_ GE227.out | refine below_set ?_ GE233.out) | exact HB.out))⟩)
                    rintro gb233 w50 ⟨hS_, h0_, h1_, h2_, h3_, h4_, h5_, h6_, h7_, h8_, h9_⟩
                    have n0_ : Aside0 (w50.heap[gb226]? = some (.cells #[.string a0] 9 (0, 0))) := ⟨h0_⟩
                    have n1_ : Aside0 (w50.heap[gb227]? = some (.cells #[.slice none 0 0, .string (⟨#[]⟩ : ByteArray), .int .i64 0, .int .u32 0] 25 (0, 0))) := ⟨h1_⟩
                    have n2_ : Aside0 (w50.heap[gb233]? = some (.cells #[.slice none 0 0, .string (⟨#[]⟩ : ByteArray), .int .i64 0, .int .u32 0] 25 (0, 0))) := ⟨h2_⟩
                    have n3_ : Aside0 (w.heap.size ≤ gb233) := ⟨h3_⟩
                    have n4_ : Aside0 (w.heap.size ≤ gb233) := ⟨h4_⟩
                    have n5_ : Aside0 (gb226 ≠ gb233) := ⟨h5_⟩
                    have n6_ : Aside0 (gb233 ≠ gb226) := ⟨h6_⟩
                    have n7_ : Aside0 (gb227 ≠ gb233) := ⟨h7_⟩
                    have n8_ : Aside0 (gb233 ≠ gb227) := ⟨h8_⟩
                    have n9_ : Aside0 (Below w.heap.size w w50) := ⟨h9_⟩
                    clear BK226
                    clear BK227
                    clear HB
                    clear h0_ h1_ h2_ h3_ h4_ h5_ h6_ h7_ h8_ h9_
                    have BK226 := n0_
                    have BK227 := n1_
                    have BK233 := n2_
                    have GW233 := n3_
                    have GE233 := n4_
                    have NB226_233 := n5_
                    have NB233_226 := n6_
                    have NB227_233 := n7_
                    have NB233_227 := n8_
                    have HB := n9_
                    clear n0_ n1_ n2_ n3_ n4_ n5_ n6_ n7_ n8_ n9_
                    have hHeld : w50.cell? ⟨gb226, 0, none⟩ = some (.string a0) := hS_
                    refine norm_ (a' := ?_) ?_ ?_
                    rotate_left
                    · simp only [putAll, Act.put, List.setIfInBounds_toArray, List.set_cons_zero, List.set_cons_succ]
                      rfl
                    refine one_ (i := 14) (N := none) zb21_Px22 rfl rfl (one_of HT_.out (by kernel_rfl)) (by decide) (fun K hK => ?_)
                    have hs51 : w50.cell? ⟨gb233, 0, none⟩ = some (.slice none 0 0) := (blk_cell BK233.out 0).trans rfl
                    have hfs51 := blk_frozen BK233.out 0
                    have hns51_0 := NB226_233.out
                    have hns51_1 := NB227_233.out
                    have hms51_0 := NB233_226.out
                    have hms51_1 := NB233_227.out
                    have hs52 : w50.cell? ⟨gb233, 1, none⟩ = some (.string (⟨#[]⟩ : ByteArray)) := (blk_cell BK233.out 1).trans rfl
                    have hfs52 := blk_frozen BK233.out 1
                    have hns52_0 := NB226_233.out
                    have hns52_1 := NB227_233.out
                    have hms52_0 := NB233_226.out
                    have hms52_1 := NB233_227.out
                    have hs53 : w50.cell? ⟨gb233, 2, none⟩ = some (.int .i64 0) := (blk_cell BK233.out 2).trans rfl
                    have hfs53 := blk_frozen BK233.out 2
                    have hns53_0 := NB226_233.out
                    have hns53_1 := NB227_233.out
                    have hms53_0 := NB233_226.out
                    have hms53_1 := NB233_227.out
                    have hs54 : w50.cell? ⟨gb233, 3, none⟩ = some (.int .u32 0) := (blk_cell BK233.out 3).trans rfl
                    have hfs54 := blk_frozen BK233.out 3
                    have hns54_0 := NB226_233.out
                    have hns54_1 := NB227_233.out
                    have hms54_0 := NB233_226.out
                    have hms54_1 := NB233_227.out
                    refine skip_ (w1 := ?_) (by rfl) rfl ?_ ?_
                    rotate_left
                    · go_simp
                      rfl
                    refine hK.out _ _ (((cell_far (p := ⟨gb233, _, none⟩) NB226_233.out _).trans (((cell_far (p := ⟨gb233, _, none⟩) NB226_233.out _).trans (((cell_far (p := ⟨gb233, _, none⟩) NB226_233.out _).trans (((cell_far (p := ⟨gb233, _, none⟩) NB226_233.out _).trans (hHeld))))))))) (fun hHeld => ?_)
                    clear hK K
                    refine done_ (done_of HT_.out (by kernel_rfl)) ?_
                    try go_wp2
                    obtain ⟨e4_, he4⟩ : ∃ z, IntKind.u32.wrap t230 = z := ⟨_, rfl⟩
                    simp only [he4] at H' BK233 ⊢
                    clear he4
                    go_loopg [54] k (fun kq v54 w' => ∃ (x54_1 : Int) (x234000_1 : List Int) (u234000 : Value), v54 = .int .i64 x54_1 ∧ Aside0 (exe_Of.l0 kq (wrap64 ((wrap64 (14 + (wrap64 (4 * t228)))) + t229)) t228 x54_1 a0 x234000_1 t232 t231 e4_ = some (r1, r2, r3, r4, r5)) ∧ Aside0 (kq ≤ k) ∧ Aside0 (Kd.R (Kd.int .u32) 23 w' w.heap.size (fun _ => True) u234000 x234000_1) ∧ Aside0 (w'.heap[gb226]? = some (.cells #[.string a0] 9 (0, 0))) ∧ Aside0 (w'.heap[gb227]? = some (.cells #[(.slice none 0 0), .string (⟨#[]⟩ : ByteArray), .int .i64 0, .int .u32 0] 25 (0, 0))) ∧ Aside0 (w'.heap[gb233]? = some (.cells #[u234000, .string t232, .int .i64 t231, .int .u32 e4_] 25 (0, 0))) ∧ Aside0 (Below w.heap.size w w'))
                    case atStart => exact ⟨(0), (([] : List Int)), (.slice none 0 0), (by first | rfl | (simp; done) | (simp [*]; done)), H', ⟨Nat.le_refl _⟩, ⟨by first | exact Kd.R_nil _ _ _ _ _ | exact Kd.N_nil _ _ _ _ _ | exact Kd.V_nil _ _ _ _ _ | exact Kd.Q_nil _ _ _ _ _ | exact Kd.S_nil _ _ _ _ _⟩, ⟨by (with_reducible repeat (first | refine blk_drewN ?_ _ | refine blk_drew ?_ | refine blk_alloc ?_ _)); refine blk_far ?_ NB226_233.out _; (with_reducible repeat (first | refine blk_drewN ?_ _ | refine blk_drew ?_ | refine blk_alloc ?_ _)); refine blk_far ?_ NB226_233.out _; (with_reducible repeat (first | refine blk_drewN ?_ _ | refine blk_drew ?_ | refine blk_alloc ?_ _)); refine blk_far ?_ NB226_233.out _; (with_reducible repeat (first | refine blk_drewN ?_ _ | refine blk_drew ?_ | refine blk_alloc ?_ _)); refine blk_far ?_ NB226_233.out _; (with_reducible repeat (first | refine blk_drewN ?_ _ | refine blk_drew ?_ | refine blk_alloc ?_ _)); exact BK226.out⟩, ⟨by (with_reducible repeat (first | refine blk_drewN ?_ _ | refine blk_drew ?_ | refine blk_alloc ?_ _)); refine blk_far ?_ NB227_233.out _; (with_reducible repeat (first | refine blk_drewN ?_ _ | refine blk_drew ?_ | refine blk_alloc ?_ _)); refine blk_far ?_ NB227_233.out _; (with_reducible repeat (first | refine blk_drewN ?_ _ | refine blk_drew ?_ | refine blk_alloc ?_ _)); refine blk_far ?_ NB227_233.out _; (with_reducible repeat (first | refine blk_drewN ?_ _ | refine blk_drew ?_ | refine blk_alloc ?_ _)); refine blk_far ?_ NB227_233.out _; (with_reducible repeat (first | refine blk_drewN ?_ _ | refine blk_drew ?_ | refine blk_alloc ?_ _)); exact BK227.out⟩, ⟨by (with_reducible repeat (first | refine blk_drewN ?_ _ | refine blk_drew ?_ | refine blk_alloc ?_ _)); refine blk_put (cs := #[.slice none 0 0, .string t232, .int .i64 t231, .int .u32 0]) ?_ 3 _ rfl; (with_reducible repeat (first | refine blk_drewN ?_ _ | refine blk_drew ?_ | refine blk_alloc ?_ _)); refine blk_put (cs := #[.slice none 0 0, .string t232, .int .i64 0, .int .u32 0]) ?_ 2 _ rfl; (with_reducible repeat (first | refine blk_drewN ?_ _ | refine blk_drew ?_ | refine blk_alloc ?_ _)); refine blk_put (cs := #[.slice none 0 0, .string (⟨#[]⟩ : ByteArray), .int .i64 0, .int .u32 0]) ?_ 1 _ rfl; (with_reducible repeat (first | refine blk_drewN ?_ _ | refine blk_drew ?_ | refine blk_alloc ?_ _)); refine blk_put (cs := #[.slice none 0 0, .string (⟨#[]⟩ : ByteArray), .int .i64 0, .int .u32 0]) ?_ 0 _ rfl; (with_reducible repeat (first | refine blk_drewN ?_ _ | refine blk_drew ?_ | refine blk_alloc ?_ _)); exact BK233.out⟩, ⟨by repeat (first | (with_reducible first | exact HB.out | apply below_alloc | apply pw_below_drewN | apply below_drew1 | refine below_set ?_ GE226.out | refine below_set ?_ GE227.out | refine below_set ?_ GE233.out) | exact HB.out)⟩⟩
                    case round =>
                      clear H'
                      try clear p2
                      try clear c3
                      try clear p6
                      try clear c35
                      try clear c36
                      try clear hcz44_0
                      try clear hfz44_0
                      obtain ⟨x54_1, x234000_1, u234000, rfl, HA, HK1, HO_234000, BK226, BK227, BK233, HB⟩ := hrel
                      cases gk with
                      | zero => exact absurd HA.out (by simp [exe_Of.l0])
                      | succ k1 =>
                        have H := HA.out
                        clear HA
                        simp only [exe_Of.l0] at H
                        by_cases c55 : x54_1 < t228
                        · rw [if_pos c55] at H
                          have c55b0 : decide (x54_1 < t228) = true := decide_eq_true c55
                          clear c55
                          replace H := Option.bind_eq_some_iff.mp H
                          obtain ⟨t234, A560, H⟩ := H
                          replace H : (if x234000_1.length < 35184372088832 then (exe_Of.l0 k1 (wrap64 ((wrap64 (14 + (wrap64 (4 * t228)))) + t229)) t228 (wrap64 (x54_1 + 1)) a0 (x234000_1 ++ [IntKind.u32.wrap (t234)]) t232 t231 e4_) else (none)) = some (r1, r2, r3, r4, r5) := H
                          have A56 := Aside0.mk A560
                          clear A560
                          by_cases c57 : x234000_1.length < 35184372088832
                          · rw [if_pos c57] at H
                            have LMc57 := Aside0.mk c57
                            clear c57
                            obtain ⟨y235, hy235⟩ : ∃ y_ : List Int, y_ = (x234000_1 ++ [IntKind.u32.wrap (t234)]) := ⟨_, rfl⟩
                            replace H : (exe_Of.l0 k1 (wrap64 ((wrap64 (14 + (wrap64 (4 * t228)))) + t229)) t228 (wrap64 (x54_1 + 1)) a0 y235 t232 t231 e4_) = some (r1, r2, r3, r4, r5) := by first | (rw [hy235]; with_reducible exact H) | (have H2_ := (Option.bind_some _ _).symm.trans H; rw [hy235]; with_reducible exact H2_) | (have H2_ := (Option.bind_some _ _).symm.trans H; with_reducible exact H2_) | with_reducible exact H | (rw [hy235]; exact H) | exact H
                            have Ny235 := Aside0.mk hy235
                            clear hy235
                            have H' := Aside0.mk H
                            clear H
                            try go_wp2
                            have n0_ := Aside0.mk (Kd.R_drew HO_234000.out)
                            have n1_ := Aside0.mk (blk_drew BK226.out)
                            have n2_ := Aside0.mk (blk_drew BK227.out)
                            have n3_ := Aside0.mk (blk_drew BK233.out)
                            have n4_ := Aside0.mk (below_drew1 HB.out)
                            clear HO_234000
                            clear BK226
                            clear BK227
                            clear BK233
                            clear HB
                            have HO_234000 := n0_
                            have BK226 := n1_
                            have BK227 := n2_
                            have BK233 := n3_
                            have HB := n4_
                            clear n0_ n1_ n2_ n3_ n4_
                            refine start_ (n := 12) (S := fun w' => w'.cell? ⟨gb233, 0, none⟩ = some (u234000) ∧ w'.cell? ⟨gb233, 1, none⟩ = some (.string t232) ∧ w'.cell? ⟨gb233, 2, none⟩ = some (.int .i64 t231) ∧ w'.cell? ⟨gb233, 3, none⟩ = some (.int .u32 e4_)) (ds := [11]) zb22_Px22 (by kernel_rfl) rfl rfl ⟨(blk_cell BK233.out 0).trans rfl, (blk_cell BK233.out 1).trans rfl, (blk_cell BK233.out 2).trans rfl, (blk_cell BK233.out 3).trans rfl⟩ (fun hHeld => ?_); refine with_tabW exe_Of.tab15 exe_Of.bits15 (fun HT_ HW_ => ?_)
                            generalize wr.drew = w58 at HO_234000 BK226 BK227 BK233 HB hHeld ⊢
                            refine pure_ (i := 0) (N := some 57) (v := ?_) (a' := ?_) zb23_Px22 rfl rfl (any_of HT_.out (by kernel_rfl)) (fun _ _ _ h => h) (Or.inl ⟨by rfl, ?_⟩) ?_ ?_
                            rotate_left
                            · intro w'
                              go_simp
                              with_reducible rfl
                            rotate_left
                            · simp only [Act.put, List.setIfInBounds_toArray, List.set_cons_zero, List.set_cons_succ, i64_w, i32_w]
                              rfl
                            refine pure_ (i := 2) (N := some 59) (v := ?_) (a' := ?_) zb24_Px22 rfl rfl (any_of HT_.out (by kernel_rfl)) (fun _ _ _ h => h) (Or.inl ⟨by rfl, ?_⟩) ?_ ?_
                            rotate_left
                            · intro w'
                              go_simp
                              with_reducible rfl
                            rotate_left
                            · simp only [Act.put, List.setIfInBounds_toArray, List.set_cons_zero, List.set_cons_succ, i64_w, i32_w]
                              rfl
                            refine pure_ (i := 3) (N := some 60) (v := ?_) (a' := ?_) zb25_Px22 rfl rfl (any_of HT_.out (by kernel_rfl)) (fun _ _ _ h => h) (Or.inl ⟨by rfl, ?_⟩) ?_ ?_
                            rotate_left
                            · intro w'
                              go_simp
                              with_reducible rfl
                            rotate_left
                            · simp only [Act.put, List.setIfInBounds_toArray, List.set_cons_zero, List.set_cons_succ, i64_w, i32_w]
                              rfl
                            refine pure_ (i := 4) (N := some 61) (v := ?_) (a' := ?_) zb26_Px22 rfl rfl (any_of HT_.out (by kernel_rfl)) (fun _ _ _ h => h) (Or.inl ⟨by rfl, ?_⟩) ?_ ?_
                            rotate_left
                            · intro w'
                              go_simp
                              with_reducible rfl
                            rotate_left
                            · simp only [Act.put, List.setIfInBounds_toArray, List.set_cons_zero, List.set_cons_succ, i64_w, i32_w]
                              rfl
                            refine pure_ (i := 5) (N := some 62) (v := ?_) (a' := ?_) zb27_Px22 rfl rfl (any_of HT_.out (by kernel_rfl)) (fun _ _ _ h => h) (Or.inl ⟨by rfl, ?_⟩) ?_ ?_
                            rotate_left
                            · intro w'
                              go_simp
                              with_reducible rfl
                            rotate_left
                            · simp only [Act.put, List.setIfInBounds_toArray, List.set_cons_zero, List.set_cons_succ, i64_w, i32_w]
                              rfl
                            refine take_ (i := 1) (N := some 58) (v := ?_) (a' := ?_) zb28_Px22 rfl rfl (take_ofW HT_.out HW_.out (by kernel_rfl)) (fun _ _ _ h => h) (Or.inl ⟨by rfl, ?_⟩) hHeld ?_ ?_
                            rotate_left
                            · rintro w' ⟨s0, s1, s2, s3⟩
                              go_simp
                              with_reducible rfl
                            rotate_left
                            · simp only [Act.put, List.setIfInBounds_toArray, List.set_cons_zero, List.set_cons_succ, i64_w, i32_w]
                              rfl
                            refine one_ (i := 6) (N := some 63) zb29_Px22 rfl rfl (one_of HT_.out (by kernel_rfl)) (by decide) (fun K hK => ?_)
                            refine goesC_ #[.pointer (some ⟨gb226, 0, none⟩)] Try.func35 (by kernel_rfl) rfl #[.int .i64 (wrap64 (14 + (wrap64 (4 * x54_1)))), .int .i64 4] #[.int .i64 (wrap64 (14 + (wrap64 (4 * x54_1)))), .int .i64 4, .pointer (some ⟨gb226, 0, none⟩)] rfl (by rfl) rfl rfl rfl (by (try simp only [List.map_toArray, List.map_cons, List.map_nil]); first | done | rfl | (simp only [List.length_drop, List.length_take]; rfl)) ?_
                            with_reducible refine (exe_Of_1.calls (wrap64 (14 + (wrap64 (4 * x54_1)))) 4 a0 t234 _ ?side1 A56.out).mono ?_
                            (case side1 => (with_reducible repeat (first | refine blk_drewN ?_ _ | refine blk_drew ?_ | refine blk_alloc ?_ _)); exact BK226.out)
                            rintro e w59 ⟨rfl, hb⟩
                            refine ⟨_, rfl, ?_⟩
                            have n0_ := Aside0.mk (Kd.R_below (by (with_reducible repeat (first | apply Kd.R_alloc | apply Kd.R_drewN | apply Kd.R_drew)); exact HO_234000.out) hb)
                            have n1_ := Aside0.mk (blk_below (g := gb226) (o := .cells #[.string a0] 9 (0, 0)) (by (with_reducible repeat (first | refine blk_drewN ?_ _ | refine blk_drew ?_ | refine blk_alloc ?_ _)); exact BK226.out) hb)
                            have n2_ := Aside0.mk (blk_below (g := gb227) (o := .cells #[.slice none 0 0, .string (⟨#[]⟩ : ByteArray), .int .i64 0, .int .u32 0] 25 (0, 0)) (by (with_reducible repeat (first | refine blk_drewN ?_ _ | refine blk_drew ?_ | refine blk_alloc ?_ _)); exact BK227.out) hb)
                            have n3_ := Aside0.mk (blk_below (g := gb233) (o := .cells #[u234000, .string t232, .int .i64 t231, .int .u32 e4_] 25 (0, 0)) (by (with_reducible repeat (first | refine blk_drewN ?_ _ | refine blk_drew ?_ | refine blk_alloc ?_ _)); exact BK233.out) hb)
                            have n4_ := Aside0.mk (below_step (by repeat (first | (with_reducible first | exact HB.out | apply below_alloc | apply pw_below_drewN | apply below_drew1 | refine below_set ?_ GE226.out | refine below_set ?_ GE227.out | refine below_set ?_ GE233.out) | exact HB.out)) hb)
                            clear HO_234000
                            clear BK226
                            clear BK227
                            clear BK233
                            clear HB
                            have HO_234000 := n0_
                            have BK226 := n1_
                            have BK227 := n2_
                            have BK233 := n3_
                            have HB := n4_
                            clear n0_ n1_ n2_ n3_ n4_
                            (try clear hb)
                            (try clear hb2)
                            (try clear hk)
                            (try clear hi)
                            refine hK.out _ _ ⟨(blk_cell BK233.out 0).trans rfl, (blk_cell BK233.out 1).trans rfl, (blk_cell BK233.out 2).trans rfl, (blk_cell BK233.out 3).trans rfl⟩ (fun hHeld => ?_)
                            clear hK K
                            refine norm_ (a' := ?_) ?_ ?_
                            rotate_left
                            · show Act.put _ (some 63) _ = _
                              simp only [Act.put, List.setIfInBounds_toArray, List.set_cons_zero, List.set_cons_succ, i64_w, i32_w]
                              rfl
                            refine pure_ (i := 7) (N := some 64) (v := ?_) (a' := ?_) zb30_Px22 rfl rfl (any_of HT_.out (by kernel_rfl)) (fun _ _ _ h => h) (Or.inl ⟨by rfl, ?_⟩) ?_ ?_
                            rotate_left
                            · intro w'
                              go_simp
                              with_reducible rfl
                            rotate_left
                            · simp only [Act.put, List.setIfInBounds_toArray, List.set_cons_zero, List.set_cons_succ, i64_w, i32_w]
                              rfl
                            refine one_ (i := 8) (N := some 65) zb31_Px22 rfl rfl (one_of HT_.out (by kernel_rfl)) (by decide) (fun K hK => ?_)
                            refine value_ (w1 := ?_) (v := ?_) (by rfl) rfl ?_ ?_
                            rotate_left 2
                            · go_simp
                              constructor
                              · rfl
                              · rfl
                            refine hK.out _ _ ⟨(blk_cell (blk_alloc BK233.out _) 0).trans rfl, (blk_cell (blk_alloc BK233.out _) 1).trans rfl, (blk_cell (blk_alloc BK233.out _) 2).trans rfl, (blk_cell (blk_alloc BK233.out _) 3).trans rfl⟩ (fun hHeld => ?_)
                            clear hK K
                            refine norm_ (a' := ?_) ?_ ?_
                            rotate_left
                            · show Act.put _ (some 65) _ = _
                              simp only [Act.put, List.setIfInBounds_toArray, List.set_cons_zero, List.set_cons_succ, i64_w, i32_w]
                              rfl
                            refine one_ (i := 9) (N := some 66) zb32_Px22 rfl rfl (one_of HT_.out (by kernel_rfl)) (by decide) (fun K hK => ?_)
                            refine Kd.R_append_step (Kd.int .u32) (w0 := w) w.heap.size (by rfl) (.tmp 58) (.tmp 65) 22 23 (.int .u32 0) 4 rfl Try.underlying22 info23 rfl (by decide) (by omega) u234000 x234000_1 (IntKind.u32.wrap (t234)) [.int .u32 (IntKind.u32.wrap (t234))] (fun _ => True) (fun _ => False) rfl rfl ?aP (fun _ hk => hk.elim) ?aF ?aO ?aB ?aS ?aL ?_
                            (case aP => exact rfl)
                            (case aB => exact (by repeat (first | (with_reducible first | exact HB.out | apply below_alloc | apply pw_below_drewN | apply below_drew1 | refine below_set ?_ GE226.out | refine below_set ?_ GE227.out | refine below_set ?_ GE233.out) | exact HB.out)))
                            (case aF => exact (fun _ _ => trivial))
                            (case aO => exact (by (with_reducible repeat (first | apply Kd.R_alloc | apply Kd.R_drewN | apply Kd.R_drew)); exact HO_234000.out))
                            (case aS => exact (below_size (by repeat (first | (with_reducible first | exact HB.out | apply below_alloc | apply pw_below_drewN | apply below_drew1 | refine below_set ?_ GE226.out | refine below_set ?_ GE227.out | refine below_set ?_ GE233.out) | exact HB.out))))
                            (case aL => have := LMc57.out; omega)
                            intro v236 w60 ho hb hg hat
                            rw [← Ny235.out] at ho
                            have n0_ := Aside0.mk (blk_grown (g := gb226) (o := .cells #[.string a0] 9 (0, 0)) (by (with_reducible repeat (first | refine blk_drewN ?_ _ | refine blk_drew ?_ | refine blk_alloc ?_ _)); exact BK226.out) hg (Kd.R_ne HO_234000.out BK226.out (by decide)))
                            have n1_ := Aside0.mk (blk_grown (g := gb227) (o := .cells #[.slice none 0 0, .string (⟨#[]⟩ : ByteArray), .int .i64 0, .int .u32 0] 25 (0, 0)) (by (with_reducible repeat (first | refine blk_drewN ?_ _ | refine blk_drew ?_ | refine blk_alloc ?_ _)); exact BK227.out) hg (Kd.R_ne HO_234000.out BK227.out (by decide)))
                            have n2_ := Aside0.mk (blk_grown (g := gb233) (o := .cells #[u234000, .string t232, .int .i64 t231, .int .u32 e4_] 25 (0, 0)) (by (with_reducible repeat (first | refine blk_drewN ?_ _ | refine blk_drew ?_ | refine blk_alloc ?_ _)); exact BK233.out) hg (Kd.R_ne HO_234000.out BK233.out (by decide)))
                            have n3_ := Aside0.mk (hb)
                            have n4_ := Aside0.mk (ho)
                            clear BK226
                            clear BK227
                            clear BK233
                            clear HB
                            clear HO_234000
                            have BK226 := n0_
                            have BK227 := n1_
                            have BK233 := n2_
                            have HB := n3_
                            have HO237 := n4_
                            clear n0_ n1_ n2_ n3_ n4_
                            clear ho hb hg hat
                            obtain ⟨Ao61, co61, eo61⟩ := Kd.R_slice HO237.out
                            (first | subst eo61 | (injection eo61 with f1_ f2_ f3_; have f4_ := f1_.symm; have f5_ := f3_.symm; clear f1_ f2_ f3_; subst f4_; subst f5_))
                            refine hK.out _ _ ⟨(blk_cell BK233.out 0).trans rfl, (blk_cell BK233.out 1).trans rfl, (blk_cell BK233.out 2).trans rfl, (blk_cell BK233.out 3).trans rfl⟩ (fun hHeld => ?_)
                            clear hK K
                            refine norm_ (a' := ?_) ?_ ?_
                            rotate_left
                            · show Act.put _ (some 66) _ = _
                              simp only [Act.put, List.setIfInBounds_toArray, List.set_cons_zero, List.set_cons_succ, i64_w, i32_w]
                              rfl
                            refine pure_ (i := 10) (N := some 67) (v := ?_) (a' := ?_) zb33_Px22 rfl rfl (any_of HT_.out (by kernel_rfl)) (fun _ _ _ h => h) (Or.inl ⟨by rfl, ?_⟩) ?_ ?_
                            rotate_left
                            · intro w'
                              go_simp
                              with_reducible rfl
                            rotate_left
                            · simp only [Act.put, List.setIfInBounds_toArray, List.set_cons_zero, List.set_cons_succ, i64_w, i32_w]
                              rfl
                            refine last_ (i := 11) (N := none) zb34_Px22 rfl rfl (one_of HT_.out (by kernel_rfl)) (by decide) (fun K hK => ?_)
                            have hs62 : w60.cell? ⟨gb233, 0, none⟩ = some (u234000) := (blk_cell BK233.out 0).trans rfl
                            have hfs62 := blk_frozen BK233.out 0
                            have hns62_0 := NB226_233.out
                            have hns62_1 := NB227_233.out
                            have hms62_0 := NB233_226.out
                            have hms62_1 := NB233_227.out
                            refine skip_ (w1 := ?_) (by rfl) rfl ?_ ?_
                            rotate_left
                            · go_simp
                              rfl
                            refine hK.out _ _ ?_
                            clear hK K
                            refine done_ (done_of HT_.out (by kernel_rfl)) ?_
                            try go_wp2
                            go_roundg k1
                            case measure => have := HK1.out; omega
                            case rel => exact ⟨(wrap64 (x54_1 + 1)), (y235), (.slice Ao61 y235.length co61), (by first | rfl | (simp; done) | (simp [*]; done)), H', ⟨by have := HK1.out; omega⟩, ⟨by (with_reducible repeat (first | apply Kd.R_alloc | apply Kd.R_drewN | apply Kd.R_drew)); exact Kd.R_mono (Kd.R_far (p := ⟨gb233, 0, none⟩) (Kd.R_types HO237.out BK233.out (by decide)) (fun _ hk => hk.2) (.slice Ao61 y235.length co61)) (fun _ hk => trivial)⟩, ⟨by (with_reducible repeat (first | refine blk_drewN ?_ _ | refine blk_drew ?_ | refine blk_alloc ?_ _)); refine blk_far ?_ NB226_233.out _; (with_reducible repeat (first | refine blk_drewN ?_ _ | refine blk_drew ?_ | refine blk_alloc ?_ _)); exact BK226.out⟩, ⟨by (with_reducible repeat (first | refine blk_drewN ?_ _ | refine blk_drew ?_ | refine blk_alloc ?_ _)); refine blk_far ?_ NB227_233.out _; (with_reducible repeat (first | refine blk_drewN ?_ _ | refine blk_drew ?_ | refine blk_alloc ?_ _)); exact BK227.out⟩, ⟨by (with_reducible repeat (first | refine blk_drewN ?_ _ | refine blk_drew ?_ | refine blk_alloc ?_ _)); refine blk_put (cs := #[u234000, .string t232, .int .i64 t231, .int .u32 e4_]) ?_ 0 _ rfl; (with_reducible repeat (first | refine blk_drewN ?_ _ | refine blk_drew ?_ | refine blk_alloc ?_ _)); exact BK233.out⟩, ⟨by repeat (first | (with_reducible first | exact HB.out | apply below_alloc | apply pw_below_drewN | apply below_drew1 | refine below_set ?_ GE226.out | refine below_set ?_ GE227.out | refine below_set ?_ GE233.out) | exact HB.out)⟩⟩
                          · rw [if_neg c57] at H
                            exact absurd H (by simp)
                        · rw [if_neg c55] at H
                          have c55b0 : decide (x54_1 < t228) = false := decide_eq_false c55
                          clear c55
                          by_cases c63 : (a0.size : Int) > (wrap64 ((wrap64 (14 + (wrap64 (4 * t228)))) + t229))
                          · rw [if_pos c63] at H
                            have c63b0 : decide ((wrap64 ((wrap64 (14 + (wrap64 (4 * t228)))) + t229)) < (a0.size : Int)) = true := decide_eq_true c63
                            clear c63
                            simp only [Option.some.injEq, Prod.mk.injEq] at H
                            obtain ⟨rfl, rfl, rfl, rfl, rfl⟩ := H
                            have hnb64 := NB226_227.out
                            have hnc64 := NB227_226.out
                            have hnb65 := NB226_233.out
                            have hnc65 := NB233_226.out
                            have hcz66_0 : wr.cell? ⟨gb226, 0, none⟩ = some (.string a0) := (blk_cell BK226.out 0).trans rfl
                            have hfz66_0 := blk_frozen BK226.out 0
                            have hnb67 := NB227_233.out
                            have hnc67 := NB233_227.out
                            have hcz68_0 : wr.cell? ⟨gb227, 0, none⟩ = some (.slice none 0 0) := (blk_cell BK227.out 0).trans rfl
                            have hcz68_1 : wr.cell? ⟨gb227, 1, none⟩ = some (.string (⟨#[]⟩ : ByteArray)) := (blk_cell BK227.out 1).trans rfl
                            have hcz68_2 : wr.cell? ⟨gb227, 2, none⟩ = some (.int .i64 0) := (blk_cell BK227.out 2).trans rfl
                            have hcz68_3 : wr.cell? ⟨gb227, 3, none⟩ = some (.int .u32 0) := (blk_cell BK227.out 3).trans rfl
                            have hfz68_0 := blk_frozen BK227.out 0
                            have hfz68_1 := blk_frozen BK227.out 1
                            have hfz68_2 := blk_frozen BK227.out 2
                            have hfz68_3 := blk_frozen BK227.out 3
                            go_wp2
                            refine bodyPost_ret (results_ct rfl _ _ gb227 25 #[.slice none 0 0, .string (⟨#[]⟩ : ByteArray), .int .i64 0, .int .u32 0] (0, 0) _ rfl (by (with_reducible repeat (first | refine blk_drewN ?_ _ | refine blk_drew ?_ | refine blk_alloc ?_ _)); refine blk_put (cs := #[.slice none 0 0, .string (⟨#[]⟩ : ByteArray), .int .i64 0, .int .u32 0]) ?_ 3 _ rfl; (with_reducible repeat (first | refine blk_drewN ?_ _ | refine blk_drew ?_ | refine blk_alloc ?_ _)); refine blk_put (cs := #[.slice none 0 0, .string (⟨#[]⟩ : ByteArray), .int .i64 0, .int .u32 0]) ?_ 2 _ rfl; (with_reducible repeat (first | refine blk_drewN ?_ _ | refine blk_drew ?_ | refine blk_alloc ?_ _)); refine blk_put (cs := #[.slice none 0 0, .string (⟨#[]⟩ : ByteArray), .int .i64 0, .int .u32 0]) ?_ 1 _ rfl; (with_reducible repeat (first | refine blk_drewN ?_ _ | refine blk_drew ?_ | refine blk_alloc ?_ _)); refine blk_put (cs := #[.slice none 0 0, .string (⟨#[]⟩ : ByteArray), .int .i64 0, .int .u32 0]) ?_ 0 _ rfl; (with_reducible repeat (first | refine blk_drewN ?_ _ | refine blk_drew ?_ | refine blk_alloc ?_ _)); exact BK227.out) Try.underlying25 rfl (by kernel_rfl)) rfl ?_
                            exact ⟨_, by first | rfl | (simp [errW_none, errW_some] <;> rfl) | (simp only [← hji2, ← hji31]; first | rfl | (simp [errW_none, errW_some] <;> rfl)) | (simp [*, errW_none, errW_some] <;> rfl), by first | exact Kd.R_nil _ _ _ _ _ | exact Kd.N_nil _ _ _ _ _ | exact Kd.V_nil _ _ _ _ _ | exact Kd.Q_nil _ _ _ _ _ | exact Kd.S_nil _ _ _ _ _, by repeat (first | (with_reducible first | exact HB.out | apply below_alloc | apply pw_below_drewN | apply below_drew1 | refine below_set ?_ GE226.out | refine below_set ?_ GE227.out | refine below_set ?_ GE233.out) | exact HB.out)⟩
                          · rw [if_neg c63] at H
                            have c63b0 : decide ((wrap64 ((wrap64 (14 + (wrap64 (4 * t228)))) + t229)) < (a0.size : Int)) = false := decide_eq_false c63
                            clear c63
                            replace H := Option.bind_eq_some_iff.mp H
                            obtain ⟨t238, A690, H⟩ := H
                            replace H : (if t238 = 0 then (some (x234000_1, t232, t231, e4_, 0)) else (some (([] : List Int), (⟨#[]⟩ : ByteArray), 0, 0, 3))) = some (r1, r2, r3, r4, r5) := H
                            have A69 := Aside0.mk A690
                            clear A690
                            by_cases c70 : t238 = 0
                            · rw [if_pos c70] at H
                              have c70b0 : (t238 == 0) = true := beq_iff_eq.mpr c70
                              have c70b1 : (t238 != 0) = false := bne_eq_false_iff_eq.mpr c70
                              clear c70
                              simp only [Option.some.injEq, Prod.mk.injEq] at H
                              obtain ⟨rfl, rfl, rfl, rfl, rfl⟩ := H
                              have hnb71 := NB226_227.out
                              have hnc71 := NB227_226.out
                              have hnb72 := NB226_233.out
                              have hnc72 := NB233_226.out
                              have hcz73_0 : wr.cell? ⟨gb226, 0, none⟩ = some (.string a0) := (blk_cell BK226.out 0).trans rfl
                              have hfz73_0 := blk_frozen BK226.out 0
                              have hnb74 := NB233_227.out
                              have hnc74 := NB227_233.out
                              have hcz75_0 : wr.cell? ⟨gb233, 0, none⟩ = some (u234000) := (blk_cell BK233.out 0).trans rfl
                              have hcz75_1 : wr.cell? ⟨gb233, 1, none⟩ = some (.string t232) := (blk_cell BK233.out 1).trans rfl
                              have hcz75_2 : wr.cell? ⟨gb233, 2, none⟩ = some (.int .i64 t231) := (blk_cell BK233.out 2).trans rfl
                              have hcz75_3 : wr.cell? ⟨gb233, 3, none⟩ = some (.int .u32 e4_) := (blk_cell BK233.out 3).trans rfl
                              have hfz75_0 := blk_frozen BK233.out 0
                              have hfz75_1 := blk_frozen BK233.out 1
                              have hfz75_2 := blk_frozen BK233.out 2
                              have hfz75_3 := blk_frozen BK233.out 3
                              obtain ⟨Ao76, co76, eo76⟩ := Kd.R_slice HO_234000.out
                              subst eo76
                              go_wp2_with (first | (go_at_call 17; (with_reducible refine (exe_Check.calls _ _ x234000_1 t232 t231 e4_ t238 _ ?side1 ?side2 A69.out).mono ?_); (case side1 => repeat (first | exact (Kd.R_reads' HO_234000.out).2.2 | (with_reducible refine Kd.C_alloc ?_ _) | (with_reducible refine Kd.C_drewN ?_ _) | (with_reducible refine Kd.C_drew ?_))); (case side2 => exact (Kd.R_reads' HO_234000.out).2.1); rintro e w77 ⟨rfl, hb⟩; have n0_ := Aside0.mk (Kd.R_below (by (with_reducible repeat (first | apply Kd.R_alloc | apply Kd.R_drewN | apply Kd.R_drew)); exact HO_234000.out) hb); have n1_ := Aside0.mk (blk_below (g := gb226) (o := .cells #[.string a0] 9 (0, 0)) (by (with_reducible repeat (first | refine blk_drewN ?_ _ | refine blk_drew ?_ | refine blk_alloc ?_ _)); exact BK226.out) hb); have n2_ := Aside0.mk (blk_below (g := gb227) (o := .cells #[.slice none 0 0, .string (⟨#[]⟩ : ByteArray), .int .i64 0, .int .u32 0] 25 (0, 0)) (by (with_reducible repeat (first | refine blk_drewN ?_ _ | refine blk_drew ?_ | refine blk_alloc ?_ _)); exact BK227.out) hb); have n3_ := Aside0.mk (blk_below (g := gb233) (o := .cells #[.slice Ao76 x234000_1.length co76, .string t232, .int .i64 t231, .int .u32 e4_] 25 (0, 0)) (by (with_reducible repeat (first | refine blk_drewN ?_ _ | refine blk_drew ?_ | refine blk_alloc ?_ _)); exact BK233.out) hb); have n4_ := Aside0.mk (below_step (by repeat (first | (with_reducible first | exact HB.out | apply below_alloc | apply pw_below_drewN | apply below_drew1 | refine below_set ?_ GE226.out | refine below_set ?_ GE227.out | refine below_set ?_ GE233.out) | exact HB.out)) hb); clear HO_234000; clear BK226; clear BK227; clear BK233; clear HB; have HO_234000 := n0_; have BK226 := n1_; have BK227 := n2_; have BK233 := n3_; have HB := n4_; clear n0_ n1_ n2_ n3_ n4_; (try clear hb); (try clear hb2); (try clear hk); (try clear hi); have hcz78_0 : w77.cell? ⟨gb233, 0, none⟩ = some (.slice Ao76 x234000_1.length co76) := (blk_cell BK233.out 0).trans rfl; have hcz78_1 : w77.cell? ⟨gb233, 1, none⟩ = some (.string t232) := (blk_cell BK233.out 1).trans rfl; have hcz78_2 : w77.cell? ⟨gb233, 2, none⟩ = some (.int .i64 t231) := (blk_cell BK233.out 2).trans rfl; have hcz78_3 : w77.cell? ⟨gb233, 3, none⟩ = some (.int .u32 e4_) := (blk_cell BK233.out 3).trans rfl; have hfz78_0 := blk_frozen BK233.out 0; have hfz78_1 := blk_frozen BK233.out 1; have hfz78_2 := blk_frozen BK233.out 2; have hfz78_3 := blk_frozen BK233.out 3; have hcz79_0 : w77.cell? ⟨gb227, 0, none⟩ = some (.slice none 0 0) := (blk_cell BK227.out 0).trans rfl; have hcz79_1 : w77.cell? ⟨gb227, 1, none⟩ = some (.string (⟨#[]⟩ : ByteArray)) := (blk_cell BK227.out 1).trans rfl; have hcz79_2 : w77.cell? ⟨gb227, 2, none⟩ = some (.int .i64 0) := (blk_cell BK227.out 2).trans rfl; have hcz79_3 : w77.cell? ⟨gb227, 3, none⟩ = some (.int .u32 0) := (blk_cell BK227.out 3).trans rfl; have hfz79_0 := blk_frozen BK227.out 0; have hfz79_1 := blk_frozen BK227.out 1; have hfz79_2 := blk_frozen BK227.out 2; have hfz79_3 := blk_frozen BK227.out 3))
                              refine bodyPost_ret (results_ct rfl _ _ gb227 25 #[.slice Ao76 x234000_1.length co76, .string t232, .int .i64 t231, .int .u32 e4_] (0, 0) _ rfl (by (with_reducible repeat (first | refine blk_drewN ?_ _ | refine blk_drew ?_ | refine blk_alloc ?_ _)); refine blk_put (cs := #[.slice Ao76 x234000_1.length co76, .string t232, .int .i64 t231, .int .u32 0]) ?_ 3 _ rfl; (with_reducible repeat (first | refine blk_drewN ?_ _ | refine blk_drew ?_ | refine blk_alloc ?_ _)); refine blk_put (cs := #[.slice Ao76 x234000_1.length co76, .string t232, .int .i64 0, .int .u32 0]) ?_ 2 _ rfl; (with_reducible repeat (first | refine blk_drewN ?_ _ | refine blk_drew ?_ | refine blk_alloc ?_ _)); refine blk_put (cs := #[.slice Ao76 x234000_1.length co76, .string (⟨#[]⟩ : ByteArray), .int .i64 0, .int .u32 0]) ?_ 1 _ rfl; (with_reducible repeat (first | refine blk_drewN ?_ _ | refine blk_drew ?_ | refine blk_alloc ?_ _)); refine blk_put (cs := #[.slice none 0 0, .string (⟨#[]⟩ : ByteArray), .int .i64 0, .int .u32 0]) ?_ 0 _ rfl; (with_reducible repeat (first | refine blk_drewN ?_ _ | refine blk_drew ?_ | refine blk_alloc ?_ _)); exact BK227.out) Try.underlying25 rfl (by kernel_rfl)) rfl ?_
                              exact ⟨_, by first | rfl | (simp [errW_none, errW_some] <;> rfl) | (simp only [← hji2, ← hji31]; first | rfl | (simp [errW_none, errW_some] <;> rfl)) | (simp [*, errW_none, errW_some] <;> rfl), by (with_reducible repeat (first | apply Kd.R_alloc | apply Kd.R_drewN | apply Kd.R_drew)); exact Kd.R_mono (Kd.R_far (p := ⟨gb227, 3, none⟩) (Kd.R_far (p := ⟨gb227, 2, none⟩) (Kd.R_far (p := ⟨gb227, 1, none⟩) (Kd.R_far (p := ⟨gb227, 0, none⟩) (Kd.R_types HO_234000.out BK227.out (by decide)) (fun _ hk => hk.2) (.slice Ao76 x234000_1.length co76)) (fun _ hk => hk.2) (.string t232)) (fun _ hk => hk.2) (.int .i64 t231)) (fun _ hk => hk.2) (.int .u32 e4_)) (fun _ hk => trivial), by repeat (first | (with_reducible first | exact HB.out | apply below_alloc | apply pw_below_drewN | apply below_drew1 | refine below_set ?_ GE226.out | refine below_set ?_ GE227.out | refine below_set ?_ GE233.out) | exact HB.out)⟩
                            · rw [if_neg c70] at H
                              have c70b0 : (t238 == 0) = false := beq_eq_false_iff_ne.mpr c70
                              have c70b1 : (t238 != 0) = true := bne_iff_ne.mpr c70
                              simp only [Option.some.injEq, Prod.mk.injEq] at H
                              obtain ⟨rfl, rfl, rfl, rfl, rfl⟩ := H
                              have hnb80 := NB226_227.out
                              have hnc80 := NB227_226.out
                              have hnb81 := NB226_233.out
                              have hnc81 := NB233_226.out
                              have hcz82_0 : wr.cell? ⟨gb226, 0, none⟩ = some (.string a0) := (blk_cell BK226.out 0).trans rfl
                              have hfz82_0 := blk_frozen BK226.out 0
                              have hnb83 := NB233_227.out
                              have hnc83 := NB227_233.out
                              have hcz84_0 : wr.cell? ⟨gb233, 0, none⟩ = some (u234000) := (blk_cell BK233.out 0).trans rfl
                              have hcz84_1 : wr.cell? ⟨gb233, 1, none⟩ = some (.string t232) := (blk_cell BK233.out 1).trans rfl
                              have hcz84_2 : wr.cell? ⟨gb233, 2, none⟩ = some (.int .i64 t231) := (blk_cell BK233.out 2).trans rfl
                              have hcz84_3 : wr.cell? ⟨gb233, 3, none⟩ = some (.int .u32 e4_) := (blk_cell BK233.out 3).trans rfl
                              have hfz84_0 := blk_frozen BK233.out 0
                              have hfz84_1 := blk_frozen BK233.out 1
                              have hfz84_2 := blk_frozen BK233.out 2
                              have hfz84_3 := blk_frozen BK233.out 3
                              obtain ⟨Ao85, co85, eo85⟩ := Kd.R_slice HO_234000.out
                              subst eo85
                              go_wp2_with (first | (go_at_call 17; (with_reducible refine (exe_Check.calls _ _ x234000_1 t232 t231 e4_ t238 _ ?side1 ?side2 A69.out).mono ?_); (case side1 => repeat (first | exact (Kd.R_reads' HO_234000.out).2.2 | (with_reducible refine Kd.C_alloc ?_ _) | (with_reducible refine Kd.C_drewN ?_ _) | (with_reducible refine Kd.C_drew ?_))); (case side2 => exact (Kd.R_reads' HO_234000.out).2.1); rintro e w86 ⟨rfl, hb⟩; have n0_ := Aside0.mk (Kd.R_below (by (with_reducible repeat (first | apply Kd.R_alloc | apply Kd.R_drewN | apply Kd.R_drew)); exact HO_234000.out) hb); have n1_ := Aside0.mk (blk_below (g := gb226) (o := .cells #[.string a0] 9 (0, 0)) (by (with_reducible repeat (first | refine blk_drewN ?_ _ | refine blk_drew ?_ | refine blk_alloc ?_ _)); exact BK226.out) hb); have n2_ := Aside0.mk (blk_below (g := gb227) (o := .cells #[.slice none 0 0, .string (⟨#[]⟩ : ByteArray), .int .i64 0, .int .u32 0] 25 (0, 0)) (by (with_reducible repeat (first | refine blk_drewN ?_ _ | refine blk_drew ?_ | refine blk_alloc ?_ _)); exact BK227.out) hb); have n3_ := Aside0.mk (blk_below (g := gb233) (o := .cells #[.slice Ao85 x234000_1.length co85, .string t232, .int .i64 t231, .int .u32 e4_] 25 (0, 0)) (by (with_reducible repeat (first | refine blk_drewN ?_ _ | refine blk_drew ?_ | refine blk_alloc ?_ _)); exact BK233.out) hb); have n4_ := Aside0.mk (below_step (by repeat (first | (with_reducible first | exact HB.out | apply below_alloc | apply pw_below_drewN | apply below_drew1 | refine below_set ?_ GE226.out | refine below_set ?_ GE227.out | refine below_set ?_ GE233.out) | exact HB.out)) hb); clear HO_234000; clear BK226; clear BK227; clear BK233; clear HB; have HO_234000 := n0_; have BK226 := n1_; have BK227 := n2_; have BK233 := n3_; have HB := n4_; clear n0_ n1_ n2_ n3_ n4_; (try clear hb); (try clear hb2); (try clear hk); (try clear hi); have hcz87_0 : w86.cell? ⟨gb227, 0, none⟩ = some (.slice none 0 0) := (blk_cell BK227.out 0).trans rfl; have hcz87_1 : w86.cell? ⟨gb227, 1, none⟩ = some (.string (⟨#[]⟩ : ByteArray)) := (blk_cell BK227.out 1).trans rfl; have hcz87_2 : w86.cell? ⟨gb227, 2, none⟩ = some (.int .i64 0) := (blk_cell BK227.out 2).trans rfl; have hcz87_3 : w86.cell? ⟨gb227, 3, none⟩ = some (.int .u32 0) := (blk_cell BK227.out 3).trans rfl; have hfz87_0 := blk_frozen BK227.out 0; have hfz87_1 := blk_frozen BK227.out 1; have hfz87_2 := blk_frozen BK227.out 2; have hfz87_3 := blk_frozen BK227.out 3))
                              refine bodyPost_ret (results_ct rfl _ _ gb227 25 #[.slice none 0 0, .string (⟨#[]⟩ : ByteArray), .int .i64 0, .int .u32 0] (0, 0) _ rfl (by (with_reducible repeat (first | refine blk_drewN ?_ _ | refine blk_drew ?_ | refine blk_alloc ?_ _)); refine blk_put (cs := #[.slice none 0 0, .string (⟨#[]⟩ : ByteArray), .int .i64 0, .int .u32 0]) ?_ 3 _ rfl; (with_reducible repeat (first | refine blk_drewN ?_ _ | refine blk_drew ?_ | refine blk_alloc ?_ _)); refine blk_put (cs := #[.slice none 0 0, .string (⟨#[]⟩ : ByteArray), .int .i64 0, .int .u32 0]) ?_ 2 _ rfl; (with_reducible repeat (first | refine blk_drewN ?_ _ | refine blk_drew ?_ | refine blk_alloc ?_ _)); refine blk_put (cs := #[.slice none 0 0, .string (⟨#[]⟩ : ByteArray), .int .i64 0, .int .u32 0]) ?_ 1 _ rfl; (with_reducible repeat (first | refine blk_drewN ?_ _ | refine blk_drew ?_ | refine blk_alloc ?_ _)); refine blk_put (cs := #[.slice none 0 0, .string (⟨#[]⟩ : ByteArray), .int .i64 0, .int .u32 0]) ?_ 0 _ rfl; (with_reducible repeat (first | refine blk_drewN ?_ _ | refine blk_drew ?_ | refine blk_alloc ?_ _)); exact BK227.out) Try.underlying25 rfl (by kernel_rfl)) rfl ?_
                              exact ⟨_, by first | rfl | (simp [errW_none, errW_some] <;> rfl) | (simp only [← hji2, ← hji31]; first | rfl | (simp [errW_none, errW_some] <;> rfl)) | (simp [*, errW_none, errW_some] <;> rfl), by first | exact Kd.R_nil _ _ _ _ _ | exact Kd.N_nil _ _ _ _ _ | exact Kd.V_nil _ _ _ _ _ | exact Kd.Q_nil _ _ _ _ _ | exact Kd.S_nil _ _ _ _ _, by repeat (first | (with_reducible first | exact HB.out | apply below_alloc | apply pw_below_drewN | apply below_drew1 | refine below_set ?_ GE226.out | refine below_set ?_ GE227.out | refine below_set ?_ GE233.out) | exact HB.out)⟩
                  · rw [if_neg c34] at H
                    exact absurd H (by simp)
                · rw [if_neg c33] at H
                  exact absurd H (by simp)
              · rw [if_neg c32] at H
                exact absurd H (by simp)
        · rw [if_neg c7] at H
          have c7b0 : ((a0.extract 0 ((ji2) : Int).toNat).toList == ((⟨#[104, 105, 98, 120]⟩ : ByteArray).extract 0 ((ji2) : Int).toNat).toList) = false := beq_eq_false_iff_ne.mpr c7
          have c7b1 : ((a0.extract 0 ((ji2) : Int).toNat).toList != ((⟨#[104, 105, 98, 120]⟩ : ByteArray).extract 0 ((ji2) : Int).toNat).toList) = true := bne_iff_ne.mpr c7
          simp only [Option.some.injEq, Prod.mk.injEq] at H
          obtain ⟨rfl, rfl, rfl, rfl, rfl⟩ := H
          go_enter Try.func18, Try.ntmps18
          try go_wp2_with (first | ((with_reducible refine gate_dst (N := 1) rfl ?_); refine box_event ?hg (N := 1) ?hd (cs := #[.string a0]) (t := 9) ?hr ?_; (case hd => rfl); (case hg => rfl); (case hr => first | (go_simp; done) | (go_simp; rfl)); intro gb226 hg w88 hbox hb; have n0_ := Aside0.mk (below_step (by repeat (first | (with_reducible first | exact HB.out | apply below_alloc | apply pw_below_drewN | apply below_drew1) | exact HB.out)) hb); have n1_ := Aside0.mk (hbox); have n2_ := Aside0.mk ((by rw [hg]; exact (below_size (by repeat (first | (with_reducible first | exact HB.out | apply below_alloc | apply pw_below_drewN | apply below_drew1) | exact HB.out))) : w.heap.size ≤ gb226)); have n3_ := Aside0.mk ((by rw [hg]; exact (below_size (by repeat (first | (with_reducible first | exact HB.out | apply below_alloc | apply pw_below_drewN | apply below_drew1) | exact HB.out))) : w.heap.size ≤ gb226)); clear HB; have HB := n0_; have BK226 := n1_; have GW226 := n2_; have GE226 := n3_; clear n0_ n1_ n2_ n3_; clear hb hbox hg) | ((with_reducible refine gate_dst (N := 2) rfl ?_); refine box_event ?hg (N := 2) ?hd (cs := #[.slice none 0 0, .string (⟨#[]⟩ : ByteArray), .int .i64 0, .int .u32 0]) (t := 25) ?hr ?_; (case hd => rfl); (case hg => rfl); (case hr => first | (go_simp; done) | (go_simp; rfl)); intro gb227 hg w89 hbox hb; have n0_ := Aside0.mk (blk_below (g := gb226) (o := .cells #[.string a0] 9 (0, 0)) (by (with_reducible repeat (first | refine blk_drewN ?_ _ | refine blk_drew ?_ | refine blk_alloc ?_ _)); exact BK226.out) hb); have n1_ := Aside0.mk (below_step (by repeat (first | (with_reducible first | exact HB.out | apply below_alloc | apply pw_below_drewN | apply below_drew1 | refine below_set ?_ GE226.out) | exact HB.out)) hb); have n2_ := Aside0.mk (hbox); have n3_ := Aside0.mk ((by rw [hg]; exact (below_size (by repeat (first | (with_reducible first | exact HB.out | apply below_alloc | apply pw_below_drewN | apply below_drew1 | refine below_set ?_ GE226.out) | exact HB.out))) : w.heap.size ≤ gb227)); have n4_ := Aside0.mk ((by rw [hg]; exact (below_size (by repeat (first | (with_reducible first | exact HB.out | apply below_alloc | apply pw_below_drewN | apply below_drew1 | refine below_set ?_ GE226.out) | exact HB.out))) : w.heap.size ≤ gb227)); have n5_ := Aside0.mk ((by rw [hg]; exact Nat.ne_of_lt (blk_lt (g := gb226) (o := .cells #[.string a0] 9 (0, 0)) (by (with_reducible repeat (first | refine blk_drewN ?_ _ | refine blk_drew ?_ | refine blk_alloc ?_ _)); exact BK226.out)) : gb226 ≠ gb227)); have n6_ := Aside0.mk ((by rw [hg]; exact Nat.ne_of_gt (blk_lt (g := gb226) (o := .cells #[.string a0] 9 (0, 0)) (by (with_reducible repeat (first | refine blk_drewN ?_ _ | refine blk_drew ?_ | refine blk_alloc ?_ _)); exact BK226.out)) : gb227 ≠ gb226)); clear BK226; clear HB; have BK226 := n0_; have HB := n1_; have BK227 := n2_; have GW227 := n3_; have GE227 := n4_; have NB226_227 := n5_; have NB227_226 := n6_; clear n0_ n1_ n2_ n3_ n4_ n5_ n6_; clear hb hbox hg; have hnb90 := NB226_227.out; have hnc90 := NB227_226.out; have hcz91_0 : w89.cell? ⟨gb226, 0, none⟩ = some (.string a0) := (blk_cell BK226.out 0).trans rfl; have hfz91_0 := blk_frozen BK226.out 0))
          have n0_ := Aside0.mk (blk_drew BK226.out)
          have n1_ := Aside0.mk (blk_drew BK227.out)
          have n2_ := Aside0.mk (below_drew1 HB.out)
          clear BK226
          clear BK227
          clear HB
          have BK226 := n0_
          have BK227 := n1_
          have HB := n2_
          clear n0_ n1_ n2_
          refine start_ (n := 6) (S := fun w' => w'.cell? ⟨gb226, 0, none⟩ = some (.string a0)) (ds := []) #[false, false, false, false, false, false] (by kernel_rfl) rfl rfl ((blk_cell BK226.out 0).trans rfl) (fun hHeld => ?_)
          generalize w89.drew = w92 at BK226 BK227 HB hHeld ⊢
          refine pure_ (i := 1) (N := some 15) (v := ?_) (a' := ?_) #[false, true, false, false, false, false] rfl rfl (by kernel_rfl) (fun _ _ _ h => h) (Or.inl ⟨by rfl, ?_⟩) ?_ ?_
          rotate_left
          · intro w'
            go_simp
            with_reducible rfl
          rotate_left
          · simp only [Act.put, List.setIfInBounds_toArray, List.set_cons_zero, List.set_cons_succ, i64_w, i32_w]
            rfl
          refine pure_ (i := 3) (N := some 17) (v := ?_) (a' := ?_) #[false, true, false, true, false, false] rfl rfl (by kernel_rfl) (fun _ _ _ h => h) (Or.inl ⟨by rfl, ?_⟩) ?_ ?_
          rotate_left
          · intro w'
            go_simp
            with_reducible rfl
          rotate_left
          · simp only [Act.put, List.setIfInBounds_toArray, List.set_cons_zero, List.set_cons_succ, i64_w, i32_w]
            rfl
          refine pure_ (i := 4) (N := some 18) (v := ?_) (a' := ?_) #[false, true, false, true, true, false] rfl rfl (by kernel_rfl) (fun _ _ _ h => h) (Or.inl ⟨by rfl, ?_⟩) ?_ ?_
          rotate_left
          · intro w'
            go_simp
            with_reducible rfl
          rotate_left
          · simp only [Act.put, List.setIfInBounds_toArray, List.set_cons_zero, List.set_cons_succ, i64_w, i32_w]
            rfl
          refine take_ (i := 0) (N := some 14) (v := ?_) (a' := ?_) #[true, true, false, true, true, false] rfl rfl (by kernel_rfl) (fun _ _ _ h => h) (Or.inl ⟨by rfl, ?_⟩) hHeld ?_ ?_
          rotate_left
          · intro w' s0
            go_simp
            with_reducible rfl
          rotate_left
          · simp only [Act.put, List.setIfInBounds_toArray, List.set_cons_zero, List.set_cons_succ, i64_w, i32_w]
            rfl
          refine pure_ (i := 2) (N := some 16) (v := ?_) (a' := ?_) #[true, true, true, true, true, false] rfl rfl (by kernel_rfl) (fun _ _ _ h => h) (Or.inl ⟨by rfl, ?_⟩) ?_ ?_
          rotate_left
          · intro w'
            go_simp
            with_reducible rfl
          rotate_left
          · simp only [Act.put, List.setIfInBounds_toArray, List.set_cons_zero, List.set_cons_succ, i64_w, i32_w]
            rfl
          refine pure_ (i := 5) (N := some 19) (v := ?_) (a' := ?_) #[true, true, true, true, true, true] rfl rfl (by kernel_rfl) (fun _ _ _ h => h) (Or.inl ⟨by rfl, ?_⟩) ?_ ?_
          rotate_left
          · intro w'
            go_simp
            with_reducible rfl
          rotate_left
          · simp only [Act.put, List.setIfInBounds_toArray, List.set_cons_zero, List.set_cons_succ, i64_w, i32_w]
            rfl
          refine done_ (by kernel_rfl) ?_
          have hcz93_0 : w92.cell? ⟨gb227, 0, none⟩ = some (.slice none 0 0) := (blk_cell BK227.out 0).trans rfl
          have hcz93_1 : w92.cell? ⟨gb227, 1, none⟩ = some (.string (⟨#[]⟩ : ByteArray)) := (blk_cell BK227.out 1).trans rfl
          have hcz93_2 : w92.cell? ⟨gb227, 2, none⟩ = some (.int .i64 0) := (blk_cell BK227.out 2).trans rfl
          have hcz93_3 : w92.cell? ⟨gb227, 3, none⟩ = some (.int .u32 0) := (blk_cell BK227.out 3).trans rfl
          have hfz93_0 := blk_frozen BK227.out 0
          have hfz93_1 := blk_frozen BK227.out 1
          have hfz93_2 := blk_frozen BK227.out 2
          have hfz93_3 := blk_frozen BK227.out 3
          try go_wp2
          refine bodyPost_ret (results_ct rfl _ _ gb227 25 #[.slice none 0 0, .string (⟨#[]⟩ : ByteArray), .int .i64 0, .int .u32 0] (0, 0) _ rfl (by (with_reducible repeat (first | refine blk_drewN ?_ _ | refine blk_drew ?_ | refine blk_alloc ?_ _)); refine blk_put (cs := #[.slice none 0 0, .string (⟨#[]⟩ : ByteArray), .int .i64 0, .int .u32 0]) ?_ 3 _ rfl; (with_reducible repeat (first | refine blk_drewN ?_ _ | refine blk_drew ?_ | refine blk_alloc ?_ _)); refine blk_put (cs := #[.slice none 0 0, .string (⟨#[]⟩ : ByteArray), .int .i64 0, .int .u32 0]) ?_ 2 _ rfl; (with_reducible repeat (first | refine blk_drewN ?_ _ | refine blk_drew ?_ | refine blk_alloc ?_ _)); refine blk_put (cs := #[.slice none 0 0, .string (⟨#[]⟩ : ByteArray), .int .i64 0, .int .u32 0]) ?_ 1 _ rfl; (with_reducible repeat (first | refine blk_drewN ?_ _ | refine blk_drew ?_ | refine blk_alloc ?_ _)); refine blk_put (cs := #[.slice none 0 0, .string (⟨#[]⟩ : ByteArray), .int .i64 0, .int .u32 0]) ?_ 0 _ rfl; (with_reducible repeat (first | refine blk_drewN ?_ _ | refine blk_drew ?_ | refine blk_alloc ?_ _)); exact BK227.out) Try.underlying25 rfl (by kernel_rfl)) rfl ?_
          exact ⟨_, by first | rfl | (simp [errW_none, errW_some] <;> rfl) | (simp only [← hji2]; first | rfl | (simp [errW_none, errW_some] <;> rfl)) | (simp [*, errW_none, errW_some] <;> rfl), by first | exact Kd.R_nil _ _ _ _ _ | exact Kd.N_nil _ _ _ _ _ | exact Kd.V_nil _ _ _ _ _ | exact Kd.Q_nil _ _ _ _ _ | exact Kd.S_nil _ _ _ _ _, by repeat (first | (with_reducible first | exact HB.out | apply below_alloc | apply pw_below_drewN | apply below_drew1 | refine below_set ?_ GE226.out | refine below_set ?_ GE227.out) | exact HB.out)⟩
      · rw [if_neg c6] at H
        exact absurd H (by simp)
    · rw [if_neg c4] at H
      exact absurd H (by simp)
  · rw [if_neg c3] at H
    exact absurd H (by simp)
end
end Go.Proofs.Ytgjhabeoaejcdaa.P
end
