-- Printed for this claim and put together by wip/tools/prune.py.
import Derived.Test.YtgjhabeoaejcdaaMCuts2
import Derived.Test.YtgjhabeoaejcdaaMCuts5
import Derived.Test.YtgjhabeoaejcdaaMCuts9
set_option linter.unusedVariables false
set_option linter.unusedSimpArgs false
section
namespace Go.Proofs.Ytgjhabeoaejcdaa.P
section
abbrev zb1_Px26 : Array Bool := #[false, false, false, false, false, false, false, false, false, false, false, false, false, false, false, false]
abbrev zb2_Px26 : Array Bool := #[true, false, false, false, false, false, false, false, false, false, false, false, false, false, false, false]
abbrev zb3_Px26 : Array Bool := #[true, true, false, false, false, false, false, false, false, false, false, false, false, false, false, false]
abbrev zb4_Px26 : Array Bool := #[true, true, false, false, true, false, false, false, false, false, false, false, false, false, false, false]
abbrev zb5_Px26 : Array Bool := #[true, true, false, false, true, true, false, false, false, false, false, false, false, false, false, false]
abbrev zb6_Px26 : Array Bool := #[true, true, false, false, true, true, false, false, true, false, false, false, false, false, false, false]
abbrev zb7_Px26 : Array Bool := #[true, true, false, false, true, true, false, false, true, true, false, false, false, false, false, false]
abbrev zb8_Px26 : Array Bool := #[true, true, false, false, true, true, false, false, true, true, true, false, false, false, false, false]
abbrev zb9_Px26 : Array Bool := #[true, true, false, false, true, true, false, false, true, true, true, true, false, false, false, false]
abbrev zb10_Px26 : Array Bool := #[true, true, false, false, true, true, false, false, true, true, true, true, true, false, false, false]
abbrev zb11_Px26 : Array Bool := #[true, true, true, true, true, true, true, true, true, true, true, true, true, true, true, false]
abbrev zb12_Px26 : Array Bool := #[true, true, true, false, true, true, false, false, true, true, true, true, true, false, false, false]
abbrev zb13_Px26 : Array Bool := #[true, true, false, false, true, true, false, false, true, true, true, true, true, false, true, false]
abbrev zb14_Px26 : Array Bool := #[true, true, true, true, true, true, false, false, true, true, true, true, true, false, false, false]
abbrev zb15_Px26 : Array Bool := #[true, true, true, true, true, true, true, false, true, true, true, true, true, false, false, false]
abbrev zb16_Px26 : Array Bool := #[true, true, true, true, true, true, false, false, true, true, true, true, true, false, true, false]
abbrev zb17_Px26 : Array Bool := #[true, true, true, true, true, true, true, true, true, true, true, true, true, false, false, false]
abbrev zb18_Px26 : Array Bool := #[true, true, true, true, true, true, true, true, true, true, true, true, true, true, false, false]
abbrev zb19_Px26 : Array Bool := #[true, true, true, true, true, true, true, false, true, true, true, true, true, false, true, false]
abbrev zb20_Px26 : Array Bool := #[true, true, true, true, true, true, true, true, true, true, true, true, true, false, true, false]
abbrev zb21_Px26 : Array Bool := #[true, true, true, false, true, true, false, false, true, true, true, true, true, false, true, false]
abbrev zb22_Px26 : Array Bool := #[true, true, true, true, true, true, true, true, true, true, true, true, true, true, true, true]
abbrev zb23_Px26 : Array Bool := #[true, false, true, false, false, false, false, false, false, false, false, false, false, false, false, false]
abbrev zb24_Px26 : Array Bool := #[true, false, true, true, false, false, false, false, false, false, false, false, false, false, false, false]
abbrev zb25_Px26 : Array Bool := #[true, false, true, true, true, false, false, false, false, false, false, false, false, false, false, false]
abbrev zb26_Px26 : Array Bool := #[true, false, true, true, true, true, false, false, false, false, false, false, false, false, false, false]
abbrev zb27_Px26 : Array Bool := #[true, false, true, true, true, true, true, false, false, false, false, false, false, false, false, false]
abbrev zb28_Px26 : Array Bool := #[true, false, true, true, true, true, true, true, false, false, false, false, false, false, false, false]
abbrev zb29_Px26 : Array Bool := #[true, false, true, true, true, true, true, true, true, false, false, false, false, false, false, false]
abbrev zb30_Px26 : Array Bool := #[true, false, true, true, true, true, true, true, true, true, false, false, false, false, false, false]
abbrev zb31_Px26 : Array Bool := #[true, true, true, true, true, true, true, true, true, true, false, false, false, false, false, false]
abbrev zb32_Px26 : Array Bool := #[true, true, true, true, true, true, true, true, true, true, true, false, false, false, false, false]
abbrev zb33_Px26 : Array Bool := #[true, true, true, true, true, true, true, true, true, true, true, true, false, false, false, false]
open Go.RowKit Go.Proofs.YtgjhabeoaejcdaaW.PrintWords Go.Proofs.YtgjhabeoaejcdaaW.PrintLast Go.Proofs.YtgjhabeoaejcdaaW.PrintMore
attribute [local go_sem] max2_int min2_int max_two min_two max_three min_three max_four min_four
set_option linter.unusedVariables false
set_option linter.unusedSimpArgs false
mutual
def hibernacleref12_Of.l0 : Nat → ByteArray → Int → ByteArray → Int → Int → Option (List Int × ByteArray × Int × Int × Int)
  | 0, _, _, _, _, _ => none
  | k + 1, x0, x5, x265001, x265002, x265003 => if x5 < 4 then (hibernacleref12_Of.j1 k x0 x5 (decide (x5 < (x0.size : Int))) x265001 x265002 x265003) else (hibernacleref12_Of.j1 k x0 x5 false x265001 x265002 x265003)
def hibernacleref12_Of.j1 : Nat → ByteArray → Int → Bool → ByteArray → Int → Int → Option (List Int × ByteArray × Int × Int × Int)
  | 0, _, _, _, _, _, _ => none
  | k + 1, x0, x5, x18, x265001, x265002, x265003 => if x18 = true then (if 0 ≤ x5 then (if x5 < (x0.size : Int) then (if x5 < 4 then (if (bt x0 x5) = (bt (⟨#[104, 105, 98, 120]⟩ : ByteArray) x5) then (hibernacleref12_Of.l0 k x0 (wrap64 (x5 + 1)) x265001 x265002 x265003) else (some (([] : List Int), x265001, x265002, x265003, 3))) else (none)) else (none)) else (none)) else (if (x0.size : Int) < 14 then (some (([] : List Int), x265001, x265002, x265003, 4)) else (if 8 ≤ 10 then (if 10 ≤ (x0.size : Int) then ((hibernacleref01_Get.f k (x0.extract 8 10)).bind fun t265 => (if 10 ≤ 12 then (if 12 ≤ (x0.size : Int) then ((hibernacleref01_Get.f k (x0.extract 10 12)).bind fun t266 => (if (x0.size : Int) < (wrap64 ((wrap64 (14 + (wrap64 (4 * (wrap64 (t265)))))) + (wrap64 (t266)))) then (some (([] : List Int), x265001, x265002, x265003, 4)) else (if (x0.size : Int) > (wrap64 ((wrap64 (14 + (wrap64 (4 * (wrap64 (t265)))))) + (wrap64 (t266)))) then (some (([] : List Int), x265001, x265002, x265003, 3)) else (if 4 ≤ 8 then (if 8 ≤ (x0.size : Int) then ((hibernacleref01_Get.f k (x0.extract 4 8)).bind fun t267 => (if 12 ≤ 14 then (if 14 ≤ (x0.size : Int) then ((hibernacleref01_Get.f k (x0.extract 12 14)).bind fun t268 => (if 0 ≤ (wrap64 (14 + (wrap64 (4 * (wrap64 (t265)))))) then (if (wrap64 (14 + (wrap64 (4 * (wrap64 (t265)))))) ≤ (x0.size : Int) then (hibernacleref12_Of.l1 k x0 (wrap64 (t265)) 0 x265001 x265002 x265003 ([] : List Int) (x0.extract ((wrap64 (14 + (wrap64 (4 * (wrap64 (t265)))))) : Int).toNat x0.size) (wrap64 (t268)) (IntKind.u32.wrap (t267))) else (none)) else (none))) else (none)) else (none))) else (none)) else (none))))) else (none)) else (none))) else (none)) else (none)))
def hibernacleref12_Of.l1 : Nat → ByteArray → Int → Int → ByteArray → Int → Int → List Int → ByteArray → Int → Int → Option (List Int × ByteArray × Int × Int × Int)
  | 0, _, _, _, _, _, _, _, _, _, _ => none
  | k + 1, x0, x6, x9, x265001, x265002, x265003, x270000, x270001, x270002, x270003 => if x9 < x6 then (if 0 ≤ (wrap64 (14 + (wrap64 (4 * x9)))) then (if (wrap64 (14 + (wrap64 (4 * x9)))) ≤ (wrap64 (18 + (wrap64 (4 * x9)))) then (if (wrap64 (18 + (wrap64 (4 * x9)))) ≤ (x0.size : Int) then ((hibernacleref01_Get.f k (x0.extract ((wrap64 (14 + (wrap64 (4 * x9)))) : Int).toNat ((wrap64 (18 + (wrap64 (4 * x9)))) : Int).toNat)).bind fun t270 => (if x270000.length < 35184372088832 then (hibernacleref12_Of.l1 k x0 x6 (wrap64 (x9 + 1)) x265001 x265002 x265003 (x270000 ++ [IntKind.u32.wrap (t270)]) x270001 x270002 x270003) else (none))) else (none)) else (none)) else (none)) else ((hibernacleref12_Check.f k x270000 x270001 x270002 x270003).bind fun t274 => (if t274 = 0 then (some (x270000, x270001, x270002, x270003, 0)) else (some (([] : List Int), x265001, x265002, x265003, 3))))
end
def hibernacleref12_Of.f (k : Nat) (a0 : ByteArray) : Option (List Int × ByteArray × Int × Int × Int) := hibernacleref12_Of.l0 k a0 0 (⟨#[]⟩ : ByteArray) 0 0
theorem hibernacleref12_Of.mono_l : ∀ k, (∀ y0 y1 y2 y3 y4, LeO (hibernacleref12_Of.l0 k y0 y1 y2 y3 y4) (hibernacleref12_Of.l0 (k + 1) y0 y1 y2 y3 y4)) ∧ (∀ y0 y1 y2 y3 y4 y5, LeO (hibernacleref12_Of.j1 k y0 y1 y2 y3 y4 y5) (hibernacleref12_Of.j1 (k + 1) y0 y1 y2 y3 y4 y5)) ∧ (∀ y0 y1 y2 y3 y4 y5 y6 y7 y8 y9, LeO (hibernacleref12_Of.l1 k y0 y1 y2 y3 y4 y5 y6 y7 y8 y9) (hibernacleref12_Of.l1 (k + 1) y0 y1 y2 y3 y4 y5 y6 y7 y8 y9))
  | 0 => ⟨fun _ _ _ _ _ r h => by simp [hibernacleref12_Of.l0] at h, fun _ _ _ _ _ _ r h => by simp [hibernacleref12_Of.j1] at h, fun _ _ _ _ _ _ _ _ _ _ r h => by simp [hibernacleref12_Of.l1] at h⟩
  | k + 1 => by
    obtain ⟨ih0, ih1, ih2⟩ := hibernacleref12_Of.mono_l k
    refine ⟨?_, ?_, ?_⟩
    · intro y0 y1 y2 y3 y4
      unfold hibernacleref12_Of.l0
      repeat' first
      | (with_reducible exact ih0 _ _ _ _ _)
      | (with_reducible exact ih1 _ _ _ _ _ _)
      | (with_reducible exact ih2 _ _ _ _ _ _ _ _ _ _)
      | (with_reducible exact hibernacleref01_Get.mono _ _)
      | (with_reducible exact hibernacleref12_Check.mono _ _ _ _ _)
      | (with_reducible exact LeO.refl _)
      | (with_reducible exact LeO.none _)
      | (with_reducible refine LeO.ite ?_ ?_)
      | (with_reducible refine LeO.bind ?_ (fun _ => ?_))
      | exact ih0 _ _ _ _ _
      | exact ih1 _ _ _ _ _ _
      | exact ih2 _ _ _ _ _ _ _ _ _ _
      | exact hibernacleref01_Get.mono _ _
      | exact hibernacleref12_Check.mono _ _ _ _ _
      | exact LeO.none _
      | refine LeO.ite ?_ ?_
      | refine LeO.bind ?_ (fun _ => ?_)
    · intro y0 y1 y2 y3 y4 y5
      unfold hibernacleref12_Of.j1
      repeat' first
      | (with_reducible exact ih0 _ _ _ _ _)
      | (with_reducible exact ih1 _ _ _ _ _ _)
      | (with_reducible exact ih2 _ _ _ _ _ _ _ _ _ _)
      | (with_reducible exact hibernacleref01_Get.mono _ _)
      | (with_reducible exact hibernacleref12_Check.mono _ _ _ _ _)
      | (with_reducible exact LeO.refl _)
      | (with_reducible exact LeO.none _)
      | (with_reducible refine LeO.ite ?_ ?_)
      | (with_reducible refine LeO.bind ?_ (fun _ => ?_))
      | exact ih0 _ _ _ _ _
      | exact ih1 _ _ _ _ _ _
      | exact ih2 _ _ _ _ _ _ _ _ _ _
      | exact hibernacleref01_Get.mono _ _
      | exact hibernacleref12_Check.mono _ _ _ _ _
      | exact LeO.none _
      | refine LeO.ite ?_ ?_
      | refine LeO.bind ?_ (fun _ => ?_)
    · intro y0 y1 y2 y3 y4 y5 y6 y7 y8 y9
      unfold hibernacleref12_Of.l1
      repeat' first
      | (with_reducible exact ih0 _ _ _ _ _)
      | (with_reducible exact ih1 _ _ _ _ _ _)
      | (with_reducible exact ih2 _ _ _ _ _ _ _ _ _ _)
      | (with_reducible exact hibernacleref01_Get.mono _ _)
      | (with_reducible exact hibernacleref12_Check.mono _ _ _ _ _)
      | (with_reducible exact LeO.refl _)
      | (with_reducible exact LeO.none _)
      | (with_reducible refine LeO.ite ?_ ?_)
      | (with_reducible refine LeO.bind ?_ (fun _ => ?_))
      | exact ih0 _ _ _ _ _
      | exact ih1 _ _ _ _ _ _
      | exact ih2 _ _ _ _ _ _ _ _ _ _
      | exact hibernacleref01_Get.mono _ _
      | exact hibernacleref12_Check.mono _ _ _ _ _
      | exact LeO.none _
      | refine LeO.ite ?_ ?_
      | refine LeO.bind ?_ (fun _ => ?_)
theorem hibernacleref12_Of.mono : ∀ a0 k, LeO (hibernacleref12_Of.f k a0) (hibernacleref12_Of.f (k + 1) a0) := by
  intro a0 k
  obtain ⟨ih0, ih1, ih2⟩ := hibernacleref12_Of.mono_l k
  unfold hibernacleref12_Of.f
  repeat' first
      | (with_reducible exact ih0 _ _ _ _ _)
      | (with_reducible exact ih1 _ _ _ _ _ _)
      | (with_reducible exact ih2 _ _ _ _ _ _ _ _ _ _)
      | (with_reducible exact hibernacleref01_Get.mono _ _)
      | (with_reducible exact hibernacleref12_Check.mono _ _ _ _ _)
      | (with_reducible exact LeO.refl _)
      | (with_reducible exact LeO.none _)
      | (with_reducible refine LeO.ite ?_ ?_)
      | (with_reducible refine LeO.bind ?_ (fun _ => ?_))
      | exact ih0 _ _ _ _ _
      | exact ih1 _ _ _ _ _ _
      | exact ih2 _ _ _ _ _ _ _ _ _ _
      | exact hibernacleref01_Get.mono _ _
      | exact hibernacleref12_Check.mono _ _ _ _ _
      | exact LeO.none _
      | refine LeO.ite ?_ ?_
      | refine LeO.bind ?_ (fun _ => ?_)
def hibernacleref12_Of.T15 : Bool × List (List Nat × List Nat) := (true, [([], []), ([0], [0]), ([1], [1]), ([2], [2]), ([], []), ([4], [4]), ([5, 2], [5]), ([6], [6]), ([], []), ([], []), ([9], [9]), ([10], [10]), ([8, 11], [8, 11]), ([3, 7, 12], [3, 7, 12]), ([], []), ([14, 13, 6, 0, 1, 2, 3, 4, 5, 6, 7, 8, 9, 10, 11, 12, 13, 14], [13, 14])])
def hibernacleref12_Of.B15 : List Nat := [0, 1, 3, 7, 0, 16, 55, 119, 0, 0, 512, 1536, 3840, 8191, 0, 32767]
theorem hibernacleref12_Of.tab15 : rtab .any (opsOf Try.f20 15) = hibernacleref12_Of.T15 := by kernel_rfl
theorem hibernacleref12_Of.bits15 : waitsOk hibernacleref12_Of.T15.2 hibernacleref12_Of.B15 = true := by kernel_rfl
def hibernacleref12_Of.T19 : Bool × List (List Nat × List Nat) := (true, [([], []), ([0], [0]), ([], []), ([], []), ([3], [3]), ([4], [4]), ([], []), ([6], [6]), ([7], [7]), ([2, 5, 8], [2, 5, 8]), ([9], [9]), ([10], [10]), ([11], [11]), ([1, 12, 10], [1, 12]), ([0, 1, 2, 3, 4, 5, 6, 7, 8, 9, 10, 11, 12, 13], []), ([14, 13, 13, 0, 1, 2, 3, 4, 5, 6, 7, 8, 9, 10, 11, 12, 13], [13, 14])])
def hibernacleref12_Of.B19 : List Nat := [0, 1, 0, 0, 8, 24, 0, 64, 192, 508, 1020, 2044, 4092, 8191, 16383, 32767]
theorem hibernacleref12_Of.tab19 : rtab .any (opsOf Try.f20 19) = hibernacleref12_Of.T19 := by kernel_rfl
theorem hibernacleref12_Of.bits19 : waitsOk hibernacleref12_Of.T19.2 hibernacleref12_Of.B19 = true := by kernel_rfl
set_option maxHeartbeats 8000000 in
set_option maxRecDepth 100000 in
theorem hibernacleref12_Of.calls (k : Nat) (a0 : ByteArray) (r1 : List Int) (r2 : ByteArray) (r3 : Int) (r4 : Int) (r5 : Int) (w : World) (h : hibernacleref12_Of.f k a0 = some (r1, r2, r3, r4, r5)) :
    Calls Try.prog 20 #[.string a0] w fun e w' => ∃ v0_ : Value, e = .returned (.tuple #[.agg #[v0_, .string r2, .int .i64 r3, .int .u32 r4], .int .i64 r5]) ∧ Kd.R (Kd.int .u32) 23 w' w.heap.size (fun _ => True) v0_ r1 ∧ Below w.heap.size w w' := by
  have hu25 := Try.underlying25
  have HB := Aside0.mk (Below.refl w.heap.size w)
  have H : (hibernacleref12_Of.l0 k a0 0 (⟨#[]⟩ : ByteArray) 0 0) = some (r1, r2, r3, r4, r5) := h
  clear h
  have H' := Aside0.mk H
  clear H
  go_enter Try.func20, Try.ntmps20
  go_wp2_with (first | ((with_reducible refine gate_dst (N := 2) rfl ?_); (try (refine gate_guard (by rfl) ?_; dsimp only)); refine box_event ?hg (N := 2) ?hd (cs := #[.slice none 0 0, .string (⟨#[]⟩ : ByteArray), .int .i64 0, .int .u32 0]) (t := 25) ?hr ?_; (case hd => rfl); (case hg => rfl); (case hr => first | (go_simp; done) | (go_simp; rfl)); intro gb263 hg w2 hbox hb; have n0_ := Aside0.mk (below_step (by repeat (first | (with_reducible first | exact HB.out | apply below_alloc | apply pw_below_drewN | apply below_drew1) | exact HB.out)) hb); have n1_ := Aside0.mk (hbox); have n2_ := Aside0.mk ((by rw [hg]; exact (below_size (by repeat (first | (with_reducible first | exact HB.out | apply below_alloc | apply pw_below_drewN | apply below_drew1) | exact HB.out))) : w.heap.size ≤ gb263)); have n3_ := Aside0.mk ((by rw [hg]; exact (below_size (by repeat (first | (with_reducible first | exact HB.out | apply below_alloc | apply pw_below_drewN | apply below_drew1) | exact HB.out))) : w.heap.size ≤ gb263)); clear HB; have HB := n0_; have BK263 := n1_; have GW263 := n2_; have GE263 := n3_; clear n0_ n1_ n2_ n3_; clear hb hbox hg) | ((with_reducible refine gate_dst (N := 4) rfl ?_); (try (refine gate_guard (by rfl) ?_; dsimp only)); refine box_event ?hg (N := 4) ?hd (cs := #[.slice none 0 0, .string (⟨#[]⟩ : ByteArray), .int .i64 0, .int .u32 0]) (t := 25) ?hr ?_; (case hd => rfl); (case hg => rfl); (case hr => first | (go_simp; done) | (go_simp; rfl)); intro gb264 hg w3 hbox hb; have n0_ := Aside0.mk (blk_below (g := gb263) (o := .cells #[.slice none 0 0, .string (⟨#[]⟩ : ByteArray), .int .i64 0, .int .u32 0] 25 (0, 0)) (by (with_reducible repeat (first | refine blk_drewN ?_ _ | refine blk_drew ?_ | refine blk_alloc ?_ _)); exact BK263.out) hb); have n1_ := Aside0.mk (below_step (by repeat (first | (with_reducible first | exact HB.out | apply below_alloc | apply pw_below_drewN | apply below_drew1 | refine below_set ?_ GE263.out) | exact HB.out)) hb); have n2_ := Aside0.mk (hbox); have n3_ := Aside0.mk ((by rw [hg]; exact (below_size (by repeat (first | (with_reducible first | exact HB.out | apply below_alloc | apply pw_below_drewN | apply below_drew1 | refine below_set ?_ GE263.out) | exact HB.out))) : w.heap.size ≤ gb264)); have n4_ := Aside0.mk ((by rw [hg]; exact (below_size (by repeat (first | (with_reducible first | exact HB.out | apply below_alloc | apply pw_below_drewN | apply below_drew1 | refine below_set ?_ GE263.out) | exact HB.out))) : w.heap.size ≤ gb264)); have n5_ := Aside0.mk ((by rw [hg]; exact Nat.ne_of_lt (blk_lt (g := gb263) (o := .cells #[.slice none 0 0, .string (⟨#[]⟩ : ByteArray), .int .i64 0, .int .u32 0] 25 (0, 0)) (by (with_reducible repeat (first | refine blk_drewN ?_ _ | refine blk_drew ?_ | refine blk_alloc ?_ _)); exact BK263.out)) : gb263 ≠ gb264)); have n6_ := Aside0.mk ((by rw [hg]; exact Nat.ne_of_gt (blk_lt (g := gb263) (o := .cells #[.slice none 0 0, .string (⟨#[]⟩ : ByteArray), .int .i64 0, .int .u32 0] 25 (0, 0)) (by (with_reducible repeat (first | refine blk_drewN ?_ _ | refine blk_drew ?_ | refine blk_alloc ?_ _)); exact BK263.out)) : gb264 ≠ gb263)); clear BK263; clear HB; have BK263 := n0_; have HB := n1_; have BK264 := n2_; have GW264 := n3_; have GE264 := n4_; have NB263_264 := n5_; have NB264_263 := n6_; clear n0_ n1_ n2_ n3_ n4_ n5_ n6_; clear hb hbox hg; have hnb4 := NB264_263.out; have hnc4 := NB263_264.out; have hcz5_0 : w3.cell? ⟨gb264, 0, none⟩ = some (.slice none 0 0) := (blk_cell BK264.out 0).trans rfl; have hcz5_1 : w3.cell? ⟨gb264, 1, none⟩ = some (.string (⟨#[]⟩ : ByteArray)) := (blk_cell BK264.out 1).trans rfl; have hcz5_2 : w3.cell? ⟨gb264, 2, none⟩ = some (.int .i64 0) := (blk_cell BK264.out 2).trans rfl; have hcz5_3 : w3.cell? ⟨gb264, 3, none⟩ = some (.int .u32 0) := (blk_cell BK264.out 3).trans rfl; have hfz5_0 := blk_frozen BK264.out 0; have hfz5_1 := blk_frozen BK264.out 1; have hfz5_2 := blk_frozen BK264.out 2; have hfz5_3 := blk_frozen BK264.out 3))
  go_loopg [5] k (fun kq v5 w' => ∃ (x5_1 : Int) (x264001_1 : ByteArray) (x264002_1 : Int) (x264003_1 : Int), v5 = .int .i64 x5_1 ∧ Aside0 (hibernacleref12_Of.l0 kq a0 x5_1 (⟨#[]⟩ : ByteArray) 0 0 = some (r1, r2, r3, r4, r5)) ∧ Aside0 (kq ≤ k) ∧ Aside0 (w'.heap[gb263]? = some (.cells #[(.slice none 0 0), .string x264001_1, .int .i64 x264002_1, .int .u32 x264003_1] 25 (0, 0))) ∧ Aside0 (w'.heap[gb264]? = some (.cells #[(.slice none 0 0), .string (⟨#[]⟩ : ByteArray), .int .i64 0, .int .u32 0] 25 (0, 0))) ∧ Aside0 (Below w.heap.size w w'))
  case atStart => exact ⟨(0), ((⟨#[]⟩ : ByteArray)), (0), (0), (by first | rfl | (simp; done) | (simp [*]; done)), H', ⟨Nat.le_refl _⟩, ⟨by (with_reducible repeat (first | refine blk_drewN ?_ _ | refine blk_drew ?_ | refine blk_alloc ?_ _)); refine blk_far ?_ NB263_264.out _; (with_reducible repeat (first | refine blk_drewN ?_ _ | refine blk_drew ?_ | refine blk_alloc ?_ _)); refine blk_far ?_ NB263_264.out _; (with_reducible repeat (first | refine blk_drewN ?_ _ | refine blk_drew ?_ | refine blk_alloc ?_ _)); refine blk_far ?_ NB263_264.out _; (with_reducible repeat (first | refine blk_drewN ?_ _ | refine blk_drew ?_ | refine blk_alloc ?_ _)); refine blk_far ?_ NB263_264.out _; (with_reducible repeat (first | refine blk_drewN ?_ _ | refine blk_drew ?_ | refine blk_alloc ?_ _)); exact BK263.out⟩, ⟨by (with_reducible repeat (first | refine blk_drewN ?_ _ | refine blk_drew ?_ | refine blk_alloc ?_ _)); refine blk_put (cs := #[.slice none 0 0, .string (⟨#[]⟩ : ByteArray), .int .i64 0, .int .u32 0]) ?_ 3 _ rfl; (with_reducible repeat (first | refine blk_drewN ?_ _ | refine blk_drew ?_ | refine blk_alloc ?_ _)); refine blk_put (cs := #[.slice none 0 0, .string (⟨#[]⟩ : ByteArray), .int .i64 0, .int .u32 0]) ?_ 2 _ rfl; (with_reducible repeat (first | refine blk_drewN ?_ _ | refine blk_drew ?_ | refine blk_alloc ?_ _)); refine blk_put (cs := #[.slice none 0 0, .string (⟨#[]⟩ : ByteArray), .int .i64 0, .int .u32 0]) ?_ 1 _ rfl; (with_reducible repeat (first | refine blk_drewN ?_ _ | refine blk_drew ?_ | refine blk_alloc ?_ _)); refine blk_put (cs := #[.slice none 0 0, .string (⟨#[]⟩ : ByteArray), .int .i64 0, .int .u32 0]) ?_ 0 _ rfl; (with_reducible repeat (first | refine blk_drewN ?_ _ | refine blk_drew ?_ | refine blk_alloc ?_ _)); exact BK264.out⟩, ⟨by repeat (first | (with_reducible first | exact HB.out | apply below_alloc | apply pw_below_drewN | apply below_drew1 | refine below_set ?_ GE263.out | refine below_set ?_ GE264.out) | exact HB.out)⟩⟩
  case round =>
    clear H'
    try clear c2
    try clear p2
    try clear c4
    try clear hcz5_0
    try clear hcz5_1
    try clear hcz5_2
    try clear hcz5_3
    try clear hfz5_0
    try clear hfz5_1
    try clear hfz5_2
    try clear hfz5_3
    obtain ⟨x5_1, x264001_1, x264002_1, x264003_1, rfl, HA, HK1, BK263, BK264, HB⟩ := hrel
    cases gk with
    | zero => exact absurd HA.out (by simp [hibernacleref12_Of.l0])
    | succ k1 =>
      have H := HA.out
      clear HA
      simp only [hibernacleref12_Of.l0] at H
      have HC6 := Aside0.mk H
      clear H
      go_upto_region 3 with (fail)
      go_cut [18] (fun v18 wc => ∃ (kq : Nat) (x18_5 : Bool), v18 = .bool x18_5 ∧ Aside0 (hibernacleref12_Of.j1 kq a0 x5_1 x18_5 (⟨#[]⟩ : ByteArray) 0 0 = some (r1, r2, r3, r4, r5)) ∧ Aside0 (kq ≤ k1) ∧ Aside0 (wc.heap[gb263]? = some (.cells #[(.slice none 0 0), .string x264001_1, .int .i64 x264002_1, .int .u32 x264003_1] 25 (0, 0))) ∧ Aside0 (wc.heap[gb264]? = some (.cells #[(.slice none 0 0), .string (⟨#[]⟩ : ByteArray), .int .i64 0, .int .u32 0] 25 (0, 0))) ∧ Aside0 (Below w.heap.size w wc))
      case first =>
        have H := HC6.out
        clear HC6
        by_cases c7 : x5_1 < 4
        · rw [if_pos c7] at H
          have c7b0 : decide (x5_1 < 4) = true := decide_eq_true c7
          clear c7
          (first | rw [c7b0] | (simp only [i64_w, i32_w]; rw [c7b0]) | skip)
          have H' := Aside0.mk H
          clear H
          go_wp2
          go_meet
          case rel => exact ⟨_, (decide (x5_1 < (a0.size : Int))), (by first | rfl | (simp; done) | (simp [*]; done)), H', ⟨by have := HK1.out; first | omega | exact Nat.le_refl _⟩, ⟨by (with_reducible repeat (first | refine blk_drewN ?_ _ | refine blk_drew ?_ | refine blk_alloc ?_ _)); exact BK263.out⟩, ⟨by (with_reducible repeat (first | refine blk_drewN ?_ _ | refine blk_drew ?_ | refine blk_alloc ?_ _)); exact BK264.out⟩, ⟨by repeat (first | (with_reducible first | exact HB.out | apply below_alloc | apply pw_below_drewN | apply below_drew1 | refine below_set ?_ GE263.out | refine below_set ?_ GE264.out) | exact HB.out)⟩⟩
        · rw [if_neg c7] at H
          have c7b0 : decide (x5_1 < 4) = false := decide_eq_false c7
          clear c7
          (first | rw [c7b0] | (simp only [i64_w, i32_w]; rw [c7b0]) | skip)
          have H' := Aside0.mk H
          clear H
          go_wp2
          go_meet
          case rel => exact ⟨_, (false), (by first | rfl | (simp; done) | (simp [*]; done)), H', ⟨by have := HK1.out; first | omega | exact Nat.le_refl _⟩, ⟨by (with_reducible repeat (first | refine blk_drewN ?_ _ | refine blk_drew ?_ | refine blk_alloc ?_ _)); exact BK263.out⟩, ⟨by (with_reducible repeat (first | refine blk_drewN ?_ _ | refine blk_drew ?_ | refine blk_alloc ?_ _)); exact BK264.out⟩, ⟨by repeat (first | (with_reducible first | exact HB.out | apply below_alloc | apply pw_below_drewN | apply below_drew1 | refine below_set ?_ GE263.out | refine below_set ?_ GE264.out) | exact HB.out)⟩⟩
      case rest =>
        clear HC6
        try clear c2
        try clear p2
        try clear c4
        try clear c7
        try clear c7b0
        try clear hcz5_0
        try clear hcz5_1
        try clear hcz5_2
        try clear hcz5_3
        try clear hfz5_0
        try clear hfz5_1
        try clear hfz5_2
        try clear hfz5_3
        try clear p2
        obtain ⟨kq, x18_5, rfl, HA, HJ5, BK263, BK264, HB⟩ := hcut
        cases kq with
        | zero => exact absurd HA.out (by simp [hibernacleref12_Of.j1])
        | succ kj5 =>
          have H := HA.out
          clear HA
          simp only [hibernacleref12_Of.j1] at H
          by_cases c8 : x18_5 = true
          · subst c8
            have H1 : (if 0 ≤ x5_1 then (if x5_1 < (a0.size : Int) then (if x5_1 < 4 then (if (bt a0 x5_1) = (bt (⟨#[104, 105, 98, 120]⟩ : ByteArray) x5_1) then (hibernacleref12_Of.l0 kj5 a0 (wrap64 (x5_1 + 1)) (⟨#[]⟩ : ByteArray) 0 0) else (some (([] : List Int), (⟨#[]⟩ : ByteArray), 0, 0, 3))) else (none)) else (none)) else (none)) = some (r1, r2, r3, r4, r5) := by rw [if_pos rfl] at H; exact H
            clear H
            have H := H1
            clear H1
            by_cases c9 : 0 ≤ x5_1
            · rw [if_pos c9] at H
              have c9b0 : decide (0 ≤ x5_1) = true := decide_eq_true c9
              clear c9
              by_cases c10 : x5_1 < (a0.size : Int)
              · rw [if_pos c10] at H
                have c10b0 : decide (x5_1 < (a0.size : Int)) = true := decide_eq_true c10
                clear c10
                by_cases c12 : x5_1 < 4
                · rw [if_pos c12] at H
                  have c12b0 : decide (x5_1 < 4) = true := decide_eq_true c12
                  clear c12
                  by_cases c14 : (bt a0 x5_1) = (bt (⟨#[104, 105, 98, 120]⟩ : ByteArray) x5_1)
                  · rw [if_pos c14] at H
                    have c14b0 : ((bt a0 x5_1) == (bt (⟨#[104, 105, 98, 120]⟩ : ByteArray) x5_1)) = true := beq_iff_eq.mpr c14
                    have c14b1 : ((bt a0 x5_1) != (bt (⟨#[104, 105, 98, 120]⟩ : ByteArray) x5_1)) = false := bne_eq_false_iff_eq.mpr c14
                    clear c14
                    have H' := Aside0.mk H
                    clear H
                    try go_wp2
                    have n0_ := Aside0.mk (blk_drew BK263.out)
                    have n1_ := Aside0.mk (blk_drew BK264.out)
                    have n2_ := Aside0.mk (below_drew1 HB.out)
                    clear BK263
                    clear BK264
                    clear HB
                    have BK263 := n0_
                    have BK264 := n1_
                    have HB := n2_
                    clear n0_ n1_ n2_
                    have p11 : 0 ≤ (x5_1 : Int) := of_decide_eq_true (by first | (with_reducible assumption) | assumption)
                    have q11 : x5_1 < (a0.size : Int) := of_decide_eq_true (by first | (with_reducible assumption) | assumption)
                    have hx11 := bt_at a0 x5_1
                    replace p11 := eq_true p11
                    replace q11 := eq_true q11
                    have p13 : 0 ≤ (x5_1 : Int) := of_decide_eq_true (by first | (with_reducible assumption) | assumption)
                    have q13 : x5_1 < (4 : Int) := of_decide_eq_true (by first | (with_reducible assumption) | assumption)
                    have hx13 := bt_at (⟨#[104, 105, 98, 120]⟩ : ByteArray) x5_1
                    replace p13 := eq_true p13
                    replace q13 := eq_true q13
                    refine start_ (n := 6) (S := fun w' => True) (ds := []) #[false, false, false, false, false, false] (by kernel_rfl) rfl rfl trivial (fun hHeld => ?_)
                    generalize wc.drew = w15 at BK263 BK264 HB hHeld ⊢
                    refine pure_ (i := 0) (N := some 21) (v := ?_) (a' := ?_) #[true, false, false, false, false, false] rfl rfl (by kernel_rfl) (fun _ _ _ h => h) (Or.inl ⟨by rfl, ?_⟩) ?_ ?_
                    rotate_left
                    · intro w'
                      go_simp
                      with_reducible rfl
                    rotate_left
                    · simp only [Act.put, List.setIfInBounds_toArray, List.set_cons_zero, List.set_cons_succ, i64_w, i32_w]
                      rfl
                    refine pure_ (i := 1) (N := some 22) (v := ?_) (a' := ?_) #[true, true, false, false, false, false] rfl rfl (by kernel_rfl) (fun _ _ _ h => h) (Or.inl ⟨by rfl, ?_⟩) ?_ ?_
                    rotate_left
                    · intro w'
                      go_simp
                      with_reducible rfl
                    rotate_left
                    · simp only [Act.put, List.setIfInBounds_toArray, List.set_cons_zero, List.set_cons_succ, i64_w, i32_w]
                      rfl
                    refine pure_ (i := 3) (N := some 24) (v := ?_) (a' := ?_) #[true, true, false, true, false, false] rfl rfl (by kernel_rfl) (fun _ _ _ h => h) (Or.inl ⟨by rfl, ?_⟩) ?_ ?_
                    rotate_left
                    · intro w'
                      go_simp
                      with_reducible rfl
                    rotate_left
                    · simp only [Act.put, List.setIfInBounds_toArray, List.set_cons_zero, List.set_cons_succ, i64_w, i32_w]
                      rfl
                    refine take_ (i := 2) (N := some 23) (v := ?_) (a' := ?_) #[true, true, true, true, false, false] rfl rfl (by kernel_rfl) (fun _ _ _ h => h) (Or.inl ⟨by rfl, ?_⟩) hHeld ?_ ?_
                    rotate_left
                    · intro w' _
                      go_simp
                      with_reducible rfl
                    rotate_left
                    · simp only [Act.put, List.setIfInBounds_toArray, List.set_cons_zero, List.set_cons_succ, i64_w, i32_w]
                      rfl
                    refine take_ (i := 4) (N := some 25) (v := ?_) (a' := ?_) #[true, true, true, true, true, false] rfl rfl (by kernel_rfl) (fun _ _ _ h => h) (Or.inl ⟨by rfl, ?_⟩) hHeld ?_ ?_
                    rotate_left
                    · intro w' _
                      go_simp
                      with_reducible rfl
                    rotate_left
                    · simp only [Act.put, List.setIfInBounds_toArray, List.set_cons_zero, List.set_cons_succ, i64_w, i32_w]
                      rfl
                    refine pure_ (i := 5) (N := some 26) (v := ?_) (a' := ?_) #[true, true, true, true, true, true] rfl rfl (by kernel_rfl) (fun _ _ _ h => h) (Or.inl ⟨by rfl, ?_⟩) ?_ ?_
                    rotate_left
                    · intro w'
                      go_simp
                      with_reducible rfl
                    rotate_left
                    · simp only [Act.put, List.setIfInBounds_toArray, List.set_cons_zero, List.set_cons_succ, i64_w, i32_w]
                      rfl
                    refine done_ (by kernel_rfl) ?_
                    try go_wp2
                    go_roundg kj5
                    case measure => have := HK1.out; have := HJ5.out; omega
                    case rel => exact ⟨(wrap64 (x5_1 + 1)), (x264001_1), (x264002_1), (x264003_1), (by first | rfl | (simp; done) | (simp [*]; done)), H', ⟨by have := HK1.out; have := HJ5.out; omega⟩, ⟨by (with_reducible repeat (first | refine blk_drewN ?_ _ | refine blk_drew ?_ | refine blk_alloc ?_ _)); exact BK263.out⟩, ⟨by (with_reducible repeat (first | refine blk_drewN ?_ _ | refine blk_drew ?_ | refine blk_alloc ?_ _)); exact BK264.out⟩, ⟨by repeat (first | (with_reducible first | exact HB.out | apply below_alloc | apply pw_below_drewN | apply below_drew1 | refine below_set ?_ GE263.out | refine below_set ?_ GE264.out) | exact HB.out)⟩⟩
                  · rw [if_neg c14] at H
                    have c14b0 : ((bt a0 x5_1) == (bt (⟨#[104, 105, 98, 120]⟩ : ByteArray) x5_1)) = false := beq_eq_false_iff_ne.mpr c14
                    have c14b1 : ((bt a0 x5_1) != (bt (⟨#[104, 105, 98, 120]⟩ : ByteArray) x5_1)) = true := bne_iff_ne.mpr c14
                    simp only [Option.some.injEq, Prod.mk.injEq] at H
                    obtain ⟨rfl, rfl, rfl, rfl, rfl⟩ := H
                    try go_wp2
                    have n0_ := Aside0.mk (blk_drew BK263.out)
                    have n1_ := Aside0.mk (blk_drew BK264.out)
                    have n2_ := Aside0.mk (below_drew1 HB.out)
                    clear BK263
                    clear BK264
                    clear HB
                    have BK263 := n0_
                    have BK264 := n1_
                    have HB := n2_
                    clear n0_ n1_ n2_
                    have p11 : 0 ≤ (x5_1 : Int) := of_decide_eq_true (by first | (with_reducible assumption) | assumption)
                    have q11 : x5_1 < (a0.size : Int) := of_decide_eq_true (by first | (with_reducible assumption) | assumption)
                    have hx11 := bt_at a0 x5_1
                    replace p11 := eq_true p11
                    replace q11 := eq_true q11
                    have p13 : 0 ≤ (x5_1 : Int) := of_decide_eq_true (by first | (with_reducible assumption) | assumption)
                    have q13 : x5_1 < (4 : Int) := of_decide_eq_true (by first | (with_reducible assumption) | assumption)
                    have hx13 := bt_at (⟨#[104, 105, 98, 120]⟩ : ByteArray) x5_1
                    replace p13 := eq_true p13
                    replace q13 := eq_true q13
                    refine start_ (n := 6) (S := fun w' => True) (ds := []) #[false, false, false, false, false, false] (by kernel_rfl) rfl rfl trivial (fun hHeld => ?_)
                    generalize wc.drew = w16 at BK263 BK264 HB hHeld ⊢
                    refine pure_ (i := 0) (N := some 21) (v := ?_) (a' := ?_) #[true, false, false, false, false, false] rfl rfl (by kernel_rfl) (fun _ _ _ h => h) (Or.inl ⟨by rfl, ?_⟩) ?_ ?_
                    rotate_left
                    · intro w'
                      go_simp
                      with_reducible rfl
                    rotate_left
                    · simp only [Act.put, List.setIfInBounds_toArray, List.set_cons_zero, List.set_cons_succ, i64_w, i32_w]
                      rfl
                    refine pure_ (i := 1) (N := some 22) (v := ?_) (a' := ?_) #[true, true, false, false, false, false] rfl rfl (by kernel_rfl) (fun _ _ _ h => h) (Or.inl ⟨by rfl, ?_⟩) ?_ ?_
                    rotate_left
                    · intro w'
                      go_simp
                      with_reducible rfl
                    rotate_left
                    · simp only [Act.put, List.setIfInBounds_toArray, List.set_cons_zero, List.set_cons_succ, i64_w, i32_w]
                      rfl
                    refine pure_ (i := 3) (N := some 24) (v := ?_) (a' := ?_) #[true, true, false, true, false, false] rfl rfl (by kernel_rfl) (fun _ _ _ h => h) (Or.inl ⟨by rfl, ?_⟩) ?_ ?_
                    rotate_left
                    · intro w'
                      go_simp
                      with_reducible rfl
                    rotate_left
                    · simp only [Act.put, List.setIfInBounds_toArray, List.set_cons_zero, List.set_cons_succ, i64_w, i32_w]
                      rfl
                    refine take_ (i := 2) (N := some 23) (v := ?_) (a' := ?_) #[true, true, true, true, false, false] rfl rfl (by kernel_rfl) (fun _ _ _ h => h) (Or.inl ⟨by rfl, ?_⟩) hHeld ?_ ?_
                    rotate_left
                    · intro w' _
                      go_simp
                      with_reducible rfl
                    rotate_left
                    · simp only [Act.put, List.setIfInBounds_toArray, List.set_cons_zero, List.set_cons_succ, i64_w, i32_w]
                      rfl
                    refine take_ (i := 4) (N := some 25) (v := ?_) (a' := ?_) #[true, true, true, true, true, false] rfl rfl (by kernel_rfl) (fun _ _ _ h => h) (Or.inl ⟨by rfl, ?_⟩) hHeld ?_ ?_
                    rotate_left
                    · intro w' _
                      go_simp
                      with_reducible rfl
                    rotate_left
                    · simp only [Act.put, List.setIfInBounds_toArray, List.set_cons_zero, List.set_cons_succ, i64_w, i32_w]
                      rfl
                    refine pure_ (i := 5) (N := some 26) (v := ?_) (a' := ?_) #[true, true, true, true, true, true] rfl rfl (by kernel_rfl) (fun _ _ _ h => h) (Or.inl ⟨by rfl, ?_⟩) ?_ ?_
                    rotate_left
                    · intro w'
                      go_simp
                      with_reducible rfl
                    rotate_left
                    · simp only [Act.put, List.setIfInBounds_toArray, List.set_cons_zero, List.set_cons_succ, i64_w, i32_w]
                      rfl
                    refine done_ (by kernel_rfl) ?_
                    have hnb17 := NB264_263.out
                    have hnc17 := NB263_264.out
                    have hcz18_0 : w16.cell? ⟨gb264, 0, none⟩ = some (.slice none 0 0) := (blk_cell BK264.out 0).trans rfl
                    have hcz18_1 : w16.cell? ⟨gb264, 1, none⟩ = some (.string (⟨#[]⟩ : ByteArray)) := (blk_cell BK264.out 1).trans rfl
                    have hcz18_2 : w16.cell? ⟨gb264, 2, none⟩ = some (.int .i64 0) := (blk_cell BK264.out 2).trans rfl
                    have hcz18_3 : w16.cell? ⟨gb264, 3, none⟩ = some (.int .u32 0) := (blk_cell BK264.out 3).trans rfl
                    have hfz18_0 := blk_frozen BK264.out 0
                    have hfz18_1 := blk_frozen BK264.out 1
                    have hfz18_2 := blk_frozen BK264.out 2
                    have hfz18_3 := blk_frozen BK264.out 3
                    have hcz19_0 : w16.cell? ⟨gb263, 0, none⟩ = some (.slice none 0 0) := (blk_cell BK263.out 0).trans rfl
                    have hcz19_1 : w16.cell? ⟨gb263, 1, none⟩ = some (.string x264001_1) := (blk_cell BK263.out 1).trans rfl
                    have hcz19_2 : w16.cell? ⟨gb263, 2, none⟩ = some (.int .i64 x264002_1) := (blk_cell BK263.out 2).trans rfl
                    have hcz19_3 : w16.cell? ⟨gb263, 3, none⟩ = some (.int .u32 x264003_1) := (blk_cell BK263.out 3).trans rfl
                    have hfz19_0 := blk_frozen BK263.out 0
                    have hfz19_1 := blk_frozen BK263.out 1
                    have hfz19_2 := blk_frozen BK263.out 2
                    have hfz19_3 := blk_frozen BK263.out 3
                    try go_wp2
                    refine bodyPost_ret (results_ct rfl _ _ gb263 25 #[.slice none 0 0, .string (⟨#[]⟩ : ByteArray), .int .i64 0, .int .u32 0] (0, 0) _ rfl (by (with_reducible repeat (first | refine blk_drewN ?_ _ | refine blk_drew ?_ | refine blk_alloc ?_ _)); refine blk_put (cs := #[.slice none 0 0, .string (⟨#[]⟩ : ByteArray), .int .i64 0, .int .u32 x264003_1]) ?_ 3 _ rfl; (with_reducible repeat (first | refine blk_drewN ?_ _ | refine blk_drew ?_ | refine blk_alloc ?_ _)); refine blk_put (cs := #[.slice none 0 0, .string (⟨#[]⟩ : ByteArray), .int .i64 x264002_1, .int .u32 x264003_1]) ?_ 2 _ rfl; (with_reducible repeat (first | refine blk_drewN ?_ _ | refine blk_drew ?_ | refine blk_alloc ?_ _)); refine blk_put (cs := #[.slice none 0 0, .string x264001_1, .int .i64 x264002_1, .int .u32 x264003_1]) ?_ 1 _ rfl; (with_reducible repeat (first | refine blk_drewN ?_ _ | refine blk_drew ?_ | refine blk_alloc ?_ _)); refine blk_put (cs := #[.slice none 0 0, .string x264001_1, .int .i64 x264002_1, .int .u32 x264003_1]) ?_ 0 _ rfl; (with_reducible repeat (first | refine blk_drewN ?_ _ | refine blk_drew ?_ | refine blk_alloc ?_ _)); exact BK263.out) Try.underlying25 rfl (by kernel_rfl)) rfl ?_
                    exact ⟨_, by first | rfl | (simp [errW_none, errW_some] <;> rfl) | (simp [*, errW_none, errW_some] <;> rfl), by first | exact Kd.R_nil _ _ _ _ _ | exact Kd.N_nil _ _ _ _ _ | exact Kd.V_nil _ _ _ _ _ | exact Kd.Q_nil _ _ _ _ _ | exact Kd.S_nil _ _ _ _ _, by repeat (first | (with_reducible first | exact HB.out | apply below_alloc | apply pw_below_drewN | apply below_drew1 | refine below_set ?_ GE263.out | refine below_set ?_ GE264.out) | exact HB.out)⟩
                · rw [if_neg c12] at H
                  exact absurd H (by simp)
              · rw [if_neg c10] at H
                exact absurd H (by simp)
            · rw [if_neg c9] at H
              exact absurd H (by simp)
          · replace c8 := Bool.eq_false_iff.mpr c8
            subst c8
            have H1 : (if (a0.size : Int) < 14 then (some (([] : List Int), (⟨#[]⟩ : ByteArray), 0, 0, 4)) else (if 8 ≤ 10 then (if 10 ≤ (a0.size : Int) then ((hibernacleref01_Get.f kj5 (a0.extract 8 10)).bind fun t265 => (if 10 ≤ 12 then (if 12 ≤ (a0.size : Int) then ((hibernacleref01_Get.f kj5 (a0.extract 10 12)).bind fun t266 => (if (a0.size : Int) < (wrap64 ((wrap64 (14 + (wrap64 (4 * (wrap64 (t265)))))) + (wrap64 (t266)))) then (some (([] : List Int), (⟨#[]⟩ : ByteArray), 0, 0, 4)) else (if (a0.size : Int) > (wrap64 ((wrap64 (14 + (wrap64 (4 * (wrap64 (t265)))))) + (wrap64 (t266)))) then (some (([] : List Int), (⟨#[]⟩ : ByteArray), 0, 0, 3)) else (if 4 ≤ 8 then (if 8 ≤ (a0.size : Int) then ((hibernacleref01_Get.f kj5 (a0.extract 4 8)).bind fun t267 => (if 12 ≤ 14 then (if 14 ≤ (a0.size : Int) then ((hibernacleref01_Get.f kj5 (a0.extract 12 14)).bind fun t268 => (if 0 ≤ (wrap64 (14 + (wrap64 (4 * (wrap64 (t265)))))) then (if (wrap64 (14 + (wrap64 (4 * (wrap64 (t265)))))) ≤ (a0.size : Int) then (hibernacleref12_Of.l1 kj5 a0 (wrap64 (t265)) 0 (⟨#[]⟩ : ByteArray) 0 0 ([] : List Int) (a0.extract ((wrap64 (14 + (wrap64 (4 * (wrap64 (t265)))))) : Int).toNat a0.size) (wrap64 (t268)) (IntKind.u32.wrap (t267))) else (none)) else (none))) else (none)) else (none))) else (none)) else (none))))) else (none)) else (none))) else (none)) else (none))) = some (r1, r2, r3, r4, r5) := by rw [if_neg (show ¬ (false = true) by decide)] at H; exact H
            clear H
            have H := H1
            clear H1
            by_cases c20 : (a0.size : Int) < 14
            · rw [if_pos c20] at H
              have c20b0 : decide ((a0.size : Int) < 14) = true := decide_eq_true c20
              have c20b1 : decide (a0.size < 14) = true := decide_eq_true (by omega)
              clear c20
              simp only [Option.some.injEq, Prod.mk.injEq] at H
              obtain ⟨rfl, rfl, rfl, rfl, rfl⟩ := H
              have hnb21 := NB264_263.out
              have hnc21 := NB263_264.out
              have hcz22_0 : wc.cell? ⟨gb264, 0, none⟩ = some (.slice none 0 0) := (blk_cell BK264.out 0).trans rfl
              have hcz22_1 : wc.cell? ⟨gb264, 1, none⟩ = some (.string (⟨#[]⟩ : ByteArray)) := (blk_cell BK264.out 1).trans rfl
              have hcz22_2 : wc.cell? ⟨gb264, 2, none⟩ = some (.int .i64 0) := (blk_cell BK264.out 2).trans rfl
              have hcz22_3 : wc.cell? ⟨gb264, 3, none⟩ = some (.int .u32 0) := (blk_cell BK264.out 3).trans rfl
              have hfz22_0 := blk_frozen BK264.out 0
              have hfz22_1 := blk_frozen BK264.out 1
              have hfz22_2 := blk_frozen BK264.out 2
              have hfz22_3 := blk_frozen BK264.out 3
              have hcz23_0 : wc.cell? ⟨gb263, 0, none⟩ = some (.slice none 0 0) := (blk_cell BK263.out 0).trans rfl
              have hcz23_1 : wc.cell? ⟨gb263, 1, none⟩ = some (.string x264001_1) := (blk_cell BK263.out 1).trans rfl
              have hcz23_2 : wc.cell? ⟨gb263, 2, none⟩ = some (.int .i64 x264002_1) := (blk_cell BK263.out 2).trans rfl
              have hcz23_3 : wc.cell? ⟨gb263, 3, none⟩ = some (.int .u32 x264003_1) := (blk_cell BK263.out 3).trans rfl
              have hfz23_0 := blk_frozen BK263.out 0
              have hfz23_1 := blk_frozen BK263.out 1
              have hfz23_2 := blk_frozen BK263.out 2
              have hfz23_3 := blk_frozen BK263.out 3
              go_wp2
              refine bodyPost_ret (results_ct rfl _ _ gb263 25 #[.slice none 0 0, .string (⟨#[]⟩ : ByteArray), .int .i64 0, .int .u32 0] (0, 0) _ rfl (by (with_reducible repeat (first | refine blk_drewN ?_ _ | refine blk_drew ?_ | refine blk_alloc ?_ _)); refine blk_put (cs := #[.slice none 0 0, .string (⟨#[]⟩ : ByteArray), .int .i64 0, .int .u32 x264003_1]) ?_ 3 _ rfl; (with_reducible repeat (first | refine blk_drewN ?_ _ | refine blk_drew ?_ | refine blk_alloc ?_ _)); refine blk_put (cs := #[.slice none 0 0, .string (⟨#[]⟩ : ByteArray), .int .i64 x264002_1, .int .u32 x264003_1]) ?_ 2 _ rfl; (with_reducible repeat (first | refine blk_drewN ?_ _ | refine blk_drew ?_ | refine blk_alloc ?_ _)); refine blk_put (cs := #[.slice none 0 0, .string x264001_1, .int .i64 x264002_1, .int .u32 x264003_1]) ?_ 1 _ rfl; (with_reducible repeat (first | refine blk_drewN ?_ _ | refine blk_drew ?_ | refine blk_alloc ?_ _)); refine blk_put (cs := #[.slice none 0 0, .string x264001_1, .int .i64 x264002_1, .int .u32 x264003_1]) ?_ 0 _ rfl; (with_reducible repeat (first | refine blk_drewN ?_ _ | refine blk_drew ?_ | refine blk_alloc ?_ _)); exact BK263.out) Try.underlying25 rfl (by kernel_rfl)) rfl ?_
              exact ⟨_, by first | rfl | (simp [errW_none, errW_some] <;> rfl) | (simp [*, errW_none, errW_some] <;> rfl), by first | exact Kd.R_nil _ _ _ _ _ | exact Kd.N_nil _ _ _ _ _ | exact Kd.V_nil _ _ _ _ _ | exact Kd.Q_nil _ _ _ _ _ | exact Kd.S_nil _ _ _ _ _, by repeat (first | (with_reducible first | exact HB.out | apply below_alloc | apply pw_below_drewN | apply below_drew1 | refine below_set ?_ GE263.out | refine below_set ?_ GE264.out) | exact HB.out)⟩
            · rw [if_neg c20] at H
              have c20b0 : decide ((a0.size : Int) < 14) = false := decide_eq_false c20
              have c20b1 : decide (a0.size < 14) = false := decide_eq_false (by omega)
              clear c20
              by_cases c24 : 8 ≤ 10
              · rw [if_pos c24] at H
                have c24b0 := eq_true c24
                have c24b1 : decide (8 ≤ 10) = true := decide_eq_true c24
                clear c24
                by_cases c25 : 10 ≤ (a0.size : Int)
                · rw [if_pos c25] at H
                  have c25b0 := eq_true c25
                  have c25b1 : decide (10 ≤ (a0.size : Int)) = true := decide_eq_true c25
                  clear c25
                  replace H := Option.bind_eq_some_iff.mp H
                  obtain ⟨t265, A260, H⟩ := H
                  replace H : (if 10 ≤ 12 then (if 12 ≤ (a0.size : Int) then ((hibernacleref01_Get.f kj5 (a0.extract 10 12)).bind fun t266 => (if (a0.size : Int) < (wrap64 ((wrap64 (14 + (wrap64 (4 * (wrap64 (t265)))))) + (wrap64 (t266)))) then (some (([] : List Int), (⟨#[]⟩ : ByteArray), 0, 0, 4)) else (if (a0.size : Int) > (wrap64 ((wrap64 (14 + (wrap64 (4 * (wrap64 (t265)))))) + (wrap64 (t266)))) then (some (([] : List Int), (⟨#[]⟩ : ByteArray), 0, 0, 3)) else (if 4 ≤ 8 then (if 8 ≤ (a0.size : Int) then ((hibernacleref01_Get.f kj5 (a0.extract 4 8)).bind fun t267 => (if 12 ≤ 14 then (if 14 ≤ (a0.size : Int) then ((hibernacleref01_Get.f kj5 (a0.extract 12 14)).bind fun t268 => (if 0 ≤ (wrap64 (14 + (wrap64 (4 * (wrap64 (t265)))))) then (if (wrap64 (14 + (wrap64 (4 * (wrap64 (t265)))))) ≤ (a0.size : Int) then (hibernacleref12_Of.l1 kj5 a0 (wrap64 (t265)) 0 (⟨#[]⟩ : ByteArray) 0 0 ([] : List Int) (a0.extract ((wrap64 (14 + (wrap64 (4 * (wrap64 (t265)))))) : Int).toNat a0.size) (wrap64 (t268)) (IntKind.u32.wrap (t267))) else (none)) else (none))) else (none)) else (none))) else (none)) else (none))))) else (none)) else (none)) = some (r1, r2, r3, r4, r5) := H
                  have A26 := Aside0.mk A260
                  clear A260
                  by_cases c27 : 10 ≤ 12
                  · rw [if_pos c27] at H
                    have c27b0 := eq_true c27
                    have c27b1 : decide (10 ≤ 12) = true := decide_eq_true c27
                    clear c27
                    by_cases c28 : 12 ≤ (a0.size : Int)
                    · rw [if_pos c28] at H
                      have c28b0 := eq_true c28
                      have c28b1 : decide (12 ≤ (a0.size : Int)) = true := decide_eq_true c28
                      clear c28
                      replace H := Option.bind_eq_some_iff.mp H
                      obtain ⟨t266, A290, H⟩ := H
                      replace H : (if (a0.size : Int) < (wrap64 ((wrap64 (14 + (wrap64 (4 * (wrap64 (t265)))))) + (wrap64 (t266)))) then (some (([] : List Int), (⟨#[]⟩ : ByteArray), 0, 0, 4)) else (if (a0.size : Int) > (wrap64 ((wrap64 (14 + (wrap64 (4 * (wrap64 (t265)))))) + (wrap64 (t266)))) then (some (([] : List Int), (⟨#[]⟩ : ByteArray), 0, 0, 3)) else (if 4 ≤ 8 then (if 8 ≤ (a0.size : Int) then ((hibernacleref01_Get.f kj5 (a0.extract 4 8)).bind fun t267 => (if 12 ≤ 14 then (if 14 ≤ (a0.size : Int) then ((hibernacleref01_Get.f kj5 (a0.extract 12 14)).bind fun t268 => (if 0 ≤ (wrap64 (14 + (wrap64 (4 * (wrap64 (t265)))))) then (if (wrap64 (14 + (wrap64 (4 * (wrap64 (t265)))))) ≤ (a0.size : Int) then (hibernacleref12_Of.l1 kj5 a0 (wrap64 (t265)) 0 (⟨#[]⟩ : ByteArray) 0 0 ([] : List Int) (a0.extract ((wrap64 (14 + (wrap64 (4 * (wrap64 (t265)))))) : Int).toNat a0.size) (wrap64 (t268)) (IntKind.u32.wrap (t267))) else (none)) else (none))) else (none)) else (none))) else (none)) else (none)))) = some (r1, r2, r3, r4, r5) := H
                      have A29 := Aside0.mk A290
                      clear A290
                      by_cases c30 : (a0.size : Int) < (wrap64 ((wrap64 (14 + (wrap64 (4 * (wrap64 (t265)))))) + (wrap64 (t266))))
                      · rw [if_pos c30] at H
                        have c30b0 : decide ((a0.size : Int) < (wrap64 ((wrap64 (14 + (wrap64 (4 * (wrap64 (t265)))))) + (wrap64 (t266))))) = true := decide_eq_true c30
                        clear c30
                        simp only [Option.some.injEq, Prod.mk.injEq] at H
                        obtain ⟨rfl, rfl, rfl, rfl, rfl⟩ := H
                        go_wp2_with (first | ((with_reducible refine gate_callee (f := 37) rfl ?_); refine goesL_ (some 34) rfl rfl Try.func37 (by kernel_rfl) rfl #[.string (a0.extract 8 10)] rfl (by (try simp only [List.map_toArray, List.map_cons, List.map_nil]); first | done | rfl | (simp only [List.length_drop, List.length_take]; rfl)) ?_; (with_reducible refine (hibernacleref01_Get.calls kj5 (a0.extract 8 10) t265 _ A26.out).mono ?_); rintro e w' ⟨rfl, ⟨nd, rfl⟩⟩; refine ⟨_, rfl, ?_⟩; (try (rw [drewN_self wc]; generalize hq_ : World.drewN wc _ = wc; have n0_ : Aside0 (wc.heap[gb263]? = some (.cells #[.slice none 0 0, .string x264001_1, .int .i64 x264002_1, .int .u32 x264003_1] 25 (0, 0))) := ⟨by rw [← hq_]; exact (by (with_reducible repeat (first | refine blk_drewN ?_ _ | refine blk_drew ?_ | refine blk_alloc ?_ _)); exact BK263.out)⟩; have n1_ : Aside0 (wc.heap[gb264]? = some (.cells #[.slice none 0 0, .string (⟨#[]⟩ : ByteArray), .int .i64 0, .int .u32 0] 25 (0, 0))) := ⟨by rw [← hq_]; exact (by (with_reducible repeat (first | refine blk_drewN ?_ _ | refine blk_drew ?_ | refine blk_alloc ?_ _)); exact BK264.out)⟩; have n2_ : Aside0 (Below w.heap.size w wc) := ⟨by rw [← hq_]; exact (by repeat (first | (with_reducible first | exact HB.out | apply below_alloc | apply pw_below_drewN | apply below_drew1 | refine below_set ?_ GE263.out | refine below_set ?_ GE264.out) | exact HB.out))⟩; clear BK263 BK264 HB hq_; have BK263 := n0_; have BK264 := n1_; have HB := n2_; clear n0_ n1_ n2_))) | ((with_reducible refine gate_callee (f := 37) rfl ?_); refine goesL_ (some 38) rfl rfl Try.func37 (by kernel_rfl) rfl #[.string (a0.extract 10 12)] rfl (by (try simp only [List.map_toArray, List.map_cons, List.map_nil]); first | done | rfl | (simp only [List.length_drop, List.length_take]; rfl)) ?_; (with_reducible refine (hibernacleref01_Get.calls kj5 (a0.extract 10 12) t266 _ A29.out).mono ?_); rintro e w' ⟨rfl, ⟨nd, rfl⟩⟩; refine ⟨_, rfl, ?_⟩; (try (rw [drewN_self wc]; generalize hq_ : World.drewN wc _ = wc; have n0_ : Aside0 (wc.heap[gb263]? = some (.cells #[.slice none 0 0, .string x264001_1, .int .i64 x264002_1, .int .u32 x264003_1] 25 (0, 0))) := ⟨by rw [← hq_]; exact (by (with_reducible repeat (first | refine blk_drewN ?_ _ | refine blk_drew ?_ | refine blk_alloc ?_ _)); exact BK263.out)⟩; have n1_ : Aside0 (wc.heap[gb264]? = some (.cells #[.slice none 0 0, .string (⟨#[]⟩ : ByteArray), .int .i64 0, .int .u32 0] 25 (0, 0))) := ⟨by rw [← hq_]; exact (by (with_reducible repeat (first | refine blk_drewN ?_ _ | refine blk_drew ?_ | refine blk_alloc ?_ _)); exact BK264.out)⟩; have n2_ : Aside0 (Below w.heap.size w wc) := ⟨by rw [← hq_]; exact (by repeat (first | (with_reducible first | exact HB.out | apply below_alloc | apply pw_below_drewN | apply below_drew1 | refine below_set ?_ GE263.out | refine below_set ?_ GE264.out) | exact HB.out))⟩; clear BK263 BK264 HB hq_; have BK263 := n0_; have BK264 := n1_; have HB := n2_; clear n0_ n1_ n2_)); have hnb31 := NB264_263.out; have hnc31 := NB263_264.out; have hcz32_0 : wc.cell? ⟨gb264, 0, none⟩ = some (.slice none 0 0) := (blk_cell BK264.out 0).trans rfl; have hcz32_1 : wc.cell? ⟨gb264, 1, none⟩ = some (.string (⟨#[]⟩ : ByteArray)) := (blk_cell BK264.out 1).trans rfl; have hcz32_2 : wc.cell? ⟨gb264, 2, none⟩ = some (.int .i64 0) := (blk_cell BK264.out 2).trans rfl; have hcz32_3 : wc.cell? ⟨gb264, 3, none⟩ = some (.int .u32 0) := (blk_cell BK264.out 3).trans rfl; have hfz32_0 := blk_frozen BK264.out 0; have hfz32_1 := blk_frozen BK264.out 1; have hfz32_2 := blk_frozen BK264.out 2; have hfz32_3 := blk_frozen BK264.out 3; have hcz33_0 : wc.cell? ⟨gb263, 0, none⟩ = some (.slice none 0 0) := (blk_cell BK263.out 0).trans rfl; have hcz33_1 : wc.cell? ⟨gb263, 1, none⟩ = some (.string x264001_1) := (blk_cell BK263.out 1).trans rfl; have hcz33_2 : wc.cell? ⟨gb263, 2, none⟩ = some (.int .i64 x264002_1) := (blk_cell BK263.out 2).trans rfl; have hcz33_3 : wc.cell? ⟨gb263, 3, none⟩ = some (.int .u32 x264003_1) := (blk_cell BK263.out 3).trans rfl; have hfz33_0 := blk_frozen BK263.out 0; have hfz33_1 := blk_frozen BK263.out 1; have hfz33_2 := blk_frozen BK263.out 2; have hfz33_3 := blk_frozen BK263.out 3))
                        refine bodyPost_ret (results_ct rfl _ _ gb263 25 #[.slice none 0 0, .string (⟨#[]⟩ : ByteArray), .int .i64 0, .int .u32 0] (0, 0) _ rfl (by (with_reducible repeat (first | refine blk_drewN ?_ _ | refine blk_drew ?_ | refine blk_alloc ?_ _)); refine blk_put (cs := #[.slice none 0 0, .string (⟨#[]⟩ : ByteArray), .int .i64 0, .int .u32 x264003_1]) ?_ 3 _ rfl; (with_reducible repeat (first | refine blk_drewN ?_ _ | refine blk_drew ?_ | refine blk_alloc ?_ _)); refine blk_put (cs := #[.slice none 0 0, .string (⟨#[]⟩ : ByteArray), .int .i64 x264002_1, .int .u32 x264003_1]) ?_ 2 _ rfl; (with_reducible repeat (first | refine blk_drewN ?_ _ | refine blk_drew ?_ | refine blk_alloc ?_ _)); refine blk_put (cs := #[.slice none 0 0, .string x264001_1, .int .i64 x264002_1, .int .u32 x264003_1]) ?_ 1 _ rfl; (with_reducible repeat (first | refine blk_drewN ?_ _ | refine blk_drew ?_ | refine blk_alloc ?_ _)); refine blk_put (cs := #[.slice none 0 0, .string x264001_1, .int .i64 x264002_1, .int .u32 x264003_1]) ?_ 0 _ rfl; (with_reducible repeat (first | refine blk_drewN ?_ _ | refine blk_drew ?_ | refine blk_alloc ?_ _)); exact BK263.out) Try.underlying25 rfl (by kernel_rfl)) rfl ?_
                        exact ⟨_, by first | rfl | (simp [errW_none, errW_some] <;> rfl) | (simp [*, errW_none, errW_some] <;> rfl), by first | exact Kd.R_nil _ _ _ _ _ | exact Kd.N_nil _ _ _ _ _ | exact Kd.V_nil _ _ _ _ _ | exact Kd.Q_nil _ _ _ _ _ | exact Kd.S_nil _ _ _ _ _, by repeat (first | (with_reducible first | exact HB.out | apply below_alloc | apply pw_below_drewN | apply below_drew1 | refine below_set ?_ GE263.out | refine below_set ?_ GE264.out) | exact HB.out)⟩
                      · rw [if_neg c30] at H
                        have c30b0 : decide ((a0.size : Int) < (wrap64 ((wrap64 (14 + (wrap64 (4 * (wrap64 (t265)))))) + (wrap64 (t266))))) = false := decide_eq_false c30
                        clear c30
                        by_cases c34 : (a0.size : Int) > (wrap64 ((wrap64 (14 + (wrap64 (4 * (wrap64 (t265)))))) + (wrap64 (t266))))
                        · rw [if_pos c34] at H
                          have c34b0 : decide ((wrap64 ((wrap64 (14 + (wrap64 (4 * (wrap64 (t265)))))) + (wrap64 (t266)))) < (a0.size : Int)) = true := decide_eq_true c34
                          clear c34
                          simp only [Option.some.injEq, Prod.mk.injEq] at H
                          obtain ⟨rfl, rfl, rfl, rfl, rfl⟩ := H
                          go_wp2_with (first | ((with_reducible refine gate_callee (f := 37) rfl ?_); refine goesL_ (some 34) rfl rfl Try.func37 (by kernel_rfl) rfl #[.string (a0.extract 8 10)] rfl (by (try simp only [List.map_toArray, List.map_cons, List.map_nil]); first | done | rfl | (simp only [List.length_drop, List.length_take]; rfl)) ?_; (with_reducible refine (hibernacleref01_Get.calls kj5 (a0.extract 8 10) t265 _ A26.out).mono ?_); rintro e w' ⟨rfl, ⟨nd, rfl⟩⟩; refine ⟨_, rfl, ?_⟩; (try (rw [drewN_self wc]; generalize hq_ : World.drewN wc _ = wc; have n0_ : Aside0 (wc.heap[gb263]? = some (.cells #[.slice none 0 0, .string x264001_1, .int .i64 x264002_1, .int .u32 x264003_1] 25 (0, 0))) := ⟨by rw [← hq_]; exact (by (with_reducible repeat (first | refine blk_drewN ?_ _ | refine blk_drew ?_ | refine blk_alloc ?_ _)); exact BK263.out)⟩; have n1_ : Aside0 (wc.heap[gb264]? = some (.cells #[.slice none 0 0, .string (⟨#[]⟩ : ByteArray), .int .i64 0, .int .u32 0] 25 (0, 0))) := ⟨by rw [← hq_]; exact (by (with_reducible repeat (first | refine blk_drewN ?_ _ | refine blk_drew ?_ | refine blk_alloc ?_ _)); exact BK264.out)⟩; have n2_ : Aside0 (Below w.heap.size w wc) := ⟨by rw [← hq_]; exact (by repeat (first | (with_reducible first | exact HB.out | apply below_alloc | apply pw_below_drewN | apply below_drew1 | refine below_set ?_ GE263.out | refine below_set ?_ GE264.out) | exact HB.out))⟩; clear BK263 BK264 HB hq_; have BK263 := n0_; have BK264 := n1_; have HB := n2_; clear n0_ n1_ n2_))) | ((with_reducible refine gate_callee (f := 37) rfl ?_); refine goesL_ (some 38) rfl rfl Try.func37 (by kernel_rfl) rfl #[.string (a0.extract 10 12)] rfl (by (try simp only [List.map_toArray, List.map_cons, List.map_nil]); first | done | rfl | (simp only [List.length_drop, List.length_take]; rfl)) ?_; (with_reducible refine (hibernacleref01_Get.calls kj5 (a0.extract 10 12) t266 _ A29.out).mono ?_); rintro e w' ⟨rfl, ⟨nd, rfl⟩⟩; refine ⟨_, rfl, ?_⟩; (try (rw [drewN_self wc]; generalize hq_ : World.drewN wc _ = wc; have n0_ : Aside0 (wc.heap[gb263]? = some (.cells #[.slice none 0 0, .string x264001_1, .int .i64 x264002_1, .int .u32 x264003_1] 25 (0, 0))) := ⟨by rw [← hq_]; exact (by (with_reducible repeat (first | refine blk_drewN ?_ _ | refine blk_drew ?_ | refine blk_alloc ?_ _)); exact BK263.out)⟩; have n1_ : Aside0 (wc.heap[gb264]? = some (.cells #[.slice none 0 0, .string (⟨#[]⟩ : ByteArray), .int .i64 0, .int .u32 0] 25 (0, 0))) := ⟨by rw [← hq_]; exact (by (with_reducible repeat (first | refine blk_drewN ?_ _ | refine blk_drew ?_ | refine blk_alloc ?_ _)); exact BK264.out)⟩; have n2_ : Aside0 (Below w.heap.size w wc) := ⟨by rw [← hq_]; exact (by repeat (first | (with_reducible first | exact HB.out | apply below_alloc | apply pw_below_drewN | apply below_drew1 | refine below_set ?_ GE263.out | refine below_set ?_ GE264.out) | exact HB.out))⟩; clear BK263 BK264 HB hq_; have BK263 := n0_; have BK264 := n1_; have HB := n2_; clear n0_ n1_ n2_)); have hnb35 := NB264_263.out; have hnc35 := NB263_264.out; have hcz36_0 : wc.cell? ⟨gb264, 0, none⟩ = some (.slice none 0 0) := (blk_cell BK264.out 0).trans rfl; have hcz36_1 : wc.cell? ⟨gb264, 1, none⟩ = some (.string (⟨#[]⟩ : ByteArray)) := (blk_cell BK264.out 1).trans rfl; have hcz36_2 : wc.cell? ⟨gb264, 2, none⟩ = some (.int .i64 0) := (blk_cell BK264.out 2).trans rfl; have hcz36_3 : wc.cell? ⟨gb264, 3, none⟩ = some (.int .u32 0) := (blk_cell BK264.out 3).trans rfl; have hfz36_0 := blk_frozen BK264.out 0; have hfz36_1 := blk_frozen BK264.out 1; have hfz36_2 := blk_frozen BK264.out 2; have hfz36_3 := blk_frozen BK264.out 3; have hcz37_0 : wc.cell? ⟨gb263, 0, none⟩ = some (.slice none 0 0) := (blk_cell BK263.out 0).trans rfl; have hcz37_1 : wc.cell? ⟨gb263, 1, none⟩ = some (.string x264001_1) := (blk_cell BK263.out 1).trans rfl; have hcz37_2 : wc.cell? ⟨gb263, 2, none⟩ = some (.int .i64 x264002_1) := (blk_cell BK263.out 2).trans rfl; have hcz37_3 : wc.cell? ⟨gb263, 3, none⟩ = some (.int .u32 x264003_1) := (blk_cell BK263.out 3).trans rfl; have hfz37_0 := blk_frozen BK263.out 0; have hfz37_1 := blk_frozen BK263.out 1; have hfz37_2 := blk_frozen BK263.out 2; have hfz37_3 := blk_frozen BK263.out 3))
                          refine bodyPost_ret (results_ct rfl _ _ gb263 25 #[.slice none 0 0, .string (⟨#[]⟩ : ByteArray), .int .i64 0, .int .u32 0] (0, 0) _ rfl (by (with_reducible repeat (first | refine blk_drewN ?_ _ | refine blk_drew ?_ | refine blk_alloc ?_ _)); refine blk_put (cs := #[.slice none 0 0, .string (⟨#[]⟩ : ByteArray), .int .i64 0, .int .u32 x264003_1]) ?_ 3 _ rfl; (with_reducible repeat (first | refine blk_drewN ?_ _ | refine blk_drew ?_ | refine blk_alloc ?_ _)); refine blk_put (cs := #[.slice none 0 0, .string (⟨#[]⟩ : ByteArray), .int .i64 x264002_1, .int .u32 x264003_1]) ?_ 2 _ rfl; (with_reducible repeat (first | refine blk_drewN ?_ _ | refine blk_drew ?_ | refine blk_alloc ?_ _)); refine blk_put (cs := #[.slice none 0 0, .string x264001_1, .int .i64 x264002_1, .int .u32 x264003_1]) ?_ 1 _ rfl; (with_reducible repeat (first | refine blk_drewN ?_ _ | refine blk_drew ?_ | refine blk_alloc ?_ _)); refine blk_put (cs := #[.slice none 0 0, .string x264001_1, .int .i64 x264002_1, .int .u32 x264003_1]) ?_ 0 _ rfl; (with_reducible repeat (first | refine blk_drewN ?_ _ | refine blk_drew ?_ | refine blk_alloc ?_ _)); exact BK263.out) Try.underlying25 rfl (by kernel_rfl)) rfl ?_
                          exact ⟨_, by first | rfl | (simp [errW_none, errW_some] <;> rfl) | (simp [*, errW_none, errW_some] <;> rfl), by first | exact Kd.R_nil _ _ _ _ _ | exact Kd.N_nil _ _ _ _ _ | exact Kd.V_nil _ _ _ _ _ | exact Kd.Q_nil _ _ _ _ _ | exact Kd.S_nil _ _ _ _ _, by repeat (first | (with_reducible first | exact HB.out | apply below_alloc | apply pw_below_drewN | apply below_drew1 | refine below_set ?_ GE263.out | refine below_set ?_ GE264.out) | exact HB.out)⟩
                        · rw [if_neg c34] at H
                          have c34b0 : decide ((wrap64 ((wrap64 (14 + (wrap64 (4 * (wrap64 (t265)))))) + (wrap64 (t266)))) < (a0.size : Int)) = false := decide_eq_false c34
                          clear c34
                          by_cases c38 : 4 ≤ 8
                          · rw [if_pos c38] at H
                            have c38b0 := eq_true c38
                            have c38b1 : decide (4 ≤ 8) = true := decide_eq_true c38
                            clear c38
                            by_cases c39 : 8 ≤ (a0.size : Int)
                            · rw [if_pos c39] at H
                              have c39b0 := eq_true c39
                              have c39b1 : decide (8 ≤ (a0.size : Int)) = true := decide_eq_true c39
                              clear c39
                              replace H := Option.bind_eq_some_iff.mp H
                              obtain ⟨t267, A400, H⟩ := H
                              replace H : (if 12 ≤ 14 then (if 14 ≤ (a0.size : Int) then ((hibernacleref01_Get.f kj5 (a0.extract 12 14)).bind fun t268 => (if 0 ≤ (wrap64 (14 + (wrap64 (4 * (wrap64 (t265)))))) then (if (wrap64 (14 + (wrap64 (4 * (wrap64 (t265)))))) ≤ (a0.size : Int) then (hibernacleref12_Of.l1 kj5 a0 (wrap64 (t265)) 0 (⟨#[]⟩ : ByteArray) 0 0 ([] : List Int) (a0.extract ((wrap64 (14 + (wrap64 (4 * (wrap64 (t265)))))) : Int).toNat a0.size) (wrap64 (t268)) (IntKind.u32.wrap (t267))) else (none)) else (none))) else (none)) else (none)) = some (r1, r2, r3, r4, r5) := H
                              have A40 := Aside0.mk A400
                              clear A400
                              by_cases c41 : 12 ≤ 14
                              · rw [if_pos c41] at H
                                have c41b0 := eq_true c41
                                have c41b1 : decide (12 ≤ 14) = true := decide_eq_true c41
                                clear c41
                                by_cases c42 : 14 ≤ (a0.size : Int)
                                · rw [if_pos c42] at H
                                  have c42b0 := eq_true c42
                                  have c42b1 : decide (14 ≤ (a0.size : Int)) = true := decide_eq_true c42
                                  clear c42
                                  replace H := Option.bind_eq_some_iff.mp H
                                  obtain ⟨t268, A430, H⟩ := H
                                  replace H : (if 0 ≤ (wrap64 (14 + (wrap64 (4 * (wrap64 (t265)))))) then (if (wrap64 (14 + (wrap64 (4 * (wrap64 (t265)))))) ≤ (a0.size : Int) then (hibernacleref12_Of.l1 kj5 a0 (wrap64 (t265)) 0 (⟨#[]⟩ : ByteArray) 0 0 ([] : List Int) (a0.extract ((wrap64 (14 + (wrap64 (4 * (wrap64 (t265)))))) : Int).toNat a0.size) (wrap64 (t268)) (IntKind.u32.wrap (t267))) else (none)) else (none)) = some (r1, r2, r3, r4, r5) := H
                                  have A43 := Aside0.mk A430
                                  clear A430
                                  obtain ⟨ji44, hji44⟩ : ∃ j_ : Int, (wrap64 (14 + (wrap64 (4 * (wrap64 (t265)))))) = j_ := ⟨_, rfl⟩
                                  replace H : (if 0 ≤ (ji44) then (if (ji44) ≤ (a0.size : Int) then (hibernacleref12_Of.l1 kj5 a0 (wrap64 (t265)) 0 (⟨#[]⟩ : ByteArray) 0 0 ([] : List Int) (a0.extract ((ji44) : Int).toNat a0.size) (wrap64 (t268)) (IntKind.u32.wrap (t267))) else (none)) else (none)) = some (r1, r2, r3, r4, r5) := by first | (rw [hji44] at H; exact H) | (simp only [hji44] at H ⊢; exact H)
                                  (try rw [hji44] at c30b0)
                                  (try rw [hji44] at c34b0)
                                  (try rw [hji44] at A26)
                                  (try rw [hji44] at A29)
                                  (try rw [hji44] at A40)
                                  (try rw [hji44] at A43)
                                  have hji44w : (IntKind.i64.wrap (14 + (wrap64 (4 * (wrap64 (t265)))))) = ji44 := (i64_w _).trans hji44
                                  by_cases c45 : 0 ≤ (ji44)
                                  · rw [if_pos c45] at H
                                    have c45b0 := eq_true c45
                                    have c45b1 : decide (0 ≤ (ji44)) = true := decide_eq_true c45
                                    clear c45
                                    by_cases c46 : (ji44) ≤ (a0.size : Int)
                                    · rw [if_pos c46] at H
                                      have c46b0 := eq_true c46
                                      have c46b1 : decide ((ji44) ≤ (a0.size : Int)) = true := decide_eq_true c46
                                      clear c46
                                      have H' := Aside0.mk H
                                      clear H
                                      try go_wp2_with (first | ((with_reducible refine gate_callee (f := 37) rfl ?_); refine goesL_ (some 34) rfl rfl Try.func37 (by kernel_rfl) rfl #[.string (a0.extract 8 10)] rfl (by (try simp only [List.map_toArray, List.map_cons, List.map_nil]); first | done | rfl | (simp only [List.length_drop, List.length_take]; rfl)) ?_; (with_reducible refine (hibernacleref01_Get.calls kj5 (a0.extract 8 10) t265 _ A26.out).mono ?_); rintro e w' ⟨rfl, ⟨nd, rfl⟩⟩; refine ⟨_, rfl, ?_⟩; (try (rw [drewN_self wc]; generalize hq_ : World.drewN wc _ = wc; have n0_ : Aside0 (wc.heap[gb263]? = some (.cells #[.slice none 0 0, .string x264001_1, .int .i64 x264002_1, .int .u32 x264003_1] 25 (0, 0))) := ⟨by rw [← hq_]; exact (by (with_reducible repeat (first | refine blk_drewN ?_ _ | refine blk_drew ?_ | refine blk_alloc ?_ _)); exact BK263.out)⟩; have n1_ : Aside0 (wc.heap[gb264]? = some (.cells #[.slice none 0 0, .string (⟨#[]⟩ : ByteArray), .int .i64 0, .int .u32 0] 25 (0, 0))) := ⟨by rw [← hq_]; exact (by (with_reducible repeat (first | refine blk_drewN ?_ _ | refine blk_drew ?_ | refine blk_alloc ?_ _)); exact BK264.out)⟩; have n2_ : Aside0 (Below w.heap.size w wc) := ⟨by rw [← hq_]; exact (by repeat (first | (with_reducible first | exact HB.out | apply below_alloc | apply pw_below_drewN | apply below_drew1 | refine below_set ?_ GE263.out | refine below_set ?_ GE264.out) | exact HB.out))⟩; clear BK263 BK264 HB hq_; have BK263 := n0_; have BK264 := n1_; have HB := n2_; clear n0_ n1_ n2_))) | ((with_reducible refine gate_callee (f := 37) rfl ?_); refine goesL_ (some 38) rfl rfl Try.func37 (by kernel_rfl) rfl #[.string (a0.extract 10 12)] rfl (by (try simp only [List.map_toArray, List.map_cons, List.map_nil]); first | done | rfl | (simp only [List.length_drop, List.length_take]; rfl)) ?_; (with_reducible refine (hibernacleref01_Get.calls kj5 (a0.extract 10 12) t266 _ A29.out).mono ?_); rintro e w' ⟨rfl, ⟨nd, rfl⟩⟩; refine ⟨_, rfl, ?_⟩; (try (rw [drewN_self wc]; generalize hq_ : World.drewN wc _ = wc; have n0_ : Aside0 (wc.heap[gb263]? = some (.cells #[.slice none 0 0, .string x264001_1, .int .i64 x264002_1, .int .u32 x264003_1] 25 (0, 0))) := ⟨by rw [← hq_]; exact (by (with_reducible repeat (first | refine blk_drewN ?_ _ | refine blk_drew ?_ | refine blk_alloc ?_ _)); exact BK263.out)⟩; have n1_ : Aside0 (wc.heap[gb264]? = some (.cells #[.slice none 0 0, .string (⟨#[]⟩ : ByteArray), .int .i64 0, .int .u32 0] 25 (0, 0))) := ⟨by rw [← hq_]; exact (by (with_reducible repeat (first | refine blk_drewN ?_ _ | refine blk_drew ?_ | refine blk_alloc ?_ _)); exact BK264.out)⟩; have n2_ : Aside0 (Below w.heap.size w wc) := ⟨by rw [← hq_]; exact (by repeat (first | (with_reducible first | exact HB.out | apply below_alloc | apply pw_below_drewN | apply below_drew1 | refine below_set ?_ GE263.out | refine below_set ?_ GE264.out) | exact HB.out))⟩; clear BK263 BK264 HB hq_; have BK263 := n0_; have BK264 := n1_; have HB := n2_; clear n0_ n1_ n2_))))
                                      have n0_ := Aside0.mk (blk_drew BK263.out)
                                      have n1_ := Aside0.mk (blk_drew BK264.out)
                                      have n2_ := Aside0.mk (below_drew1 HB.out)
                                      clear BK263
                                      clear BK264
                                      clear HB
                                      have BK263 := n0_
                                      have BK264 := n1_
                                      have HB := n2_
                                      clear n0_ n1_ n2_
                                      refine start_ (n := 16) (S := fun w' => True) (ds := []) zb1_Px26 (by kernel_rfl) rfl rfl trivial (fun hHeld => ?_); refine with_tabW hibernacleref12_Of.tab15 hibernacleref12_Of.bits15 (fun HT_ HW_ => ?_)
                                      generalize wc.drew = w47 at BK263 BK264 HB hHeld ⊢
                                      refine pure_ (i := 0) (N := some 58) (v := ?_) (a' := ?_) zb2_Px26 rfl rfl (any_of HT_.out (by kernel_rfl)) (fun _ _ _ h => h) (Or.inl ⟨by rfl, ?_⟩) ?_ ?_
                                      rotate_left
                                      · intro w'
                                        go_simp
                                        with_reducible rfl
                                      rotate_left
                                      · simp only [Act.put, List.setIfInBounds_toArray, List.set_cons_zero, List.set_cons_succ, i64_w, i32_w]
                                        rfl
                                      refine pure_ (i := 1) (N := some 59) (v := ?_) (a' := ?_) zb3_Px26 rfl rfl (any_of HT_.out (by kernel_rfl)) (fun _ _ _ h => h) (Or.inl ⟨by rfl, ?_⟩) ?_ ?_
                                      rotate_left
                                      · intro w'
                                        go_simp
                                        with_reducible rfl
                                      rotate_left
                                      · simp only [Act.put, List.setIfInBounds_toArray, List.set_cons_zero, List.set_cons_succ, i64_w, i32_w]
                                        rfl
                                      refine pure_ (i := 4) (N := some 62) (v := ?_) (a' := ?_) zb4_Px26 rfl rfl (any_of HT_.out (by kernel_rfl)) (fun _ _ _ h => h) (Or.inl ⟨by rfl, ?_⟩) ?_ ?_
                                      rotate_left
                                      · intro w'
                                        go_simp
                                        with_reducible rfl
                                      rotate_left
                                      · simp only [Act.put, List.setIfInBounds_toArray, List.set_cons_zero, List.set_cons_succ, i64_w, i32_w]
                                        rfl
                                      refine pure_ (i := 5) (N := some 63) (v := ?_) (a' := ?_) zb5_Px26 rfl rfl (any_of HT_.out (by kernel_rfl)) (fun _ _ _ h => h) (Or.inl ⟨by rfl, ?_⟩) ?_ ?_
                                      rotate_left
                                      · intro w'
                                        go_simp
                                        with_reducible rfl
                                      rotate_left
                                      · simp only [Act.put, List.setIfInBounds_toArray, List.set_cons_zero, List.set_cons_succ, i64_w, i32_w]
                                        rfl
                                      refine pure_ (i := 8) (N := some 66) (v := ?_) (a' := ?_) zb6_Px26 rfl rfl (any_of HT_.out (by kernel_rfl)) (fun _ _ _ h => h) (Or.inl ⟨by rfl, ?_⟩) ?_ ?_
                                      rotate_left
                                      · intro w'
                                        go_simp
                                        with_reducible rfl
                                      rotate_left
                                      · simp only [Act.put, List.setIfInBounds_toArray, List.set_cons_zero, List.set_cons_succ, i64_w, i32_w]
                                        rfl
                                      refine pure_ (i := 9) (N := some 67) (v := ?_) (a' := ?_) zb7_Px26 rfl rfl (any_of HT_.out (by kernel_rfl)) (fun _ _ _ h => h) (Or.inl ⟨by rfl, ?_⟩) ?_ ?_
                                      rotate_left
                                      · intro w'
                                        go_simp
                                        with_reducible rfl
                                      rotate_left
                                      · simp only [Act.put, List.setIfInBounds_toArray, List.set_cons_zero, List.set_cons_succ, i64_w, i32_w]
                                        rfl
                                      refine pure_ (i := 10) (N := some 68) (v := ?_) (a' := ?_) zb8_Px26 rfl rfl (any_of HT_.out (by kernel_rfl)) (fun _ _ _ h => h) (Or.inl ⟨by rfl, ?_⟩) ?_ ?_
                                      rotate_left
                                      · intro w'
                                        go_simp
                                        with_reducible rfl
                                      rotate_left
                                      · simp only [Act.put, List.setIfInBounds_toArray, List.set_cons_zero, List.set_cons_succ, i64_w, i32_w]
                                        rfl
                                      refine pure_ (i := 11) (N := some 69) (v := ?_) (a' := ?_) zb9_Px26 rfl rfl (any_of HT_.out (by kernel_rfl)) (fun _ _ _ h => h) (Or.inl ⟨by rfl, ?_⟩) ?_ ?_
                                      rotate_left
                                      · intro w'
                                        go_simp
                                        with_reducible rfl
                                      rotate_left
                                      · simp only [Act.put, List.setIfInBounds_toArray, List.set_cons_zero, List.set_cons_succ, i64_w, i32_w]
                                        rfl
                                      refine pure_ (i := 12) (N := some 70) (v := ?_) (a' := ?_) zb10_Px26 rfl rfl (any_of HT_.out (by kernel_rfl)) (fun _ _ _ h => h) (Or.inl ⟨by rfl, ?_⟩) ?_ ?_
                                      rotate_left
                                      · intro w'
                                        go_simp
                                        with_reducible rfl
                                      rotate_left
                                      · simp only [Act.put, List.setIfInBounds_toArray, List.set_cons_zero, List.set_cons_succ, i64_w, i32_w]
                                        rfl
                                      refine join_ (σ := Nat) 1 zb11_Px26 (fun s_ => [(60, .int .u64 t267), (64, .int .u64 t268), (8, .pointer (some ⟨s_, 0, none⟩)), (61, .int .u32 (IntKind.u32.wrap (t267))), (65, .int .i64 (wrap64 (t268))), (71, .agg #[.slice none 0 0, .string (a0.extract ((ji44) : Int).toNat a0.size), .int .i64 (wrap64 (t268)), .int .u32 (IntKind.u32.wrap (t267))])]) (fun s_ w' => (w'.heap[gb263]? = some (.cells #[.slice none 0 0, .string x264001_1, .int .i64 x264002_1, .int .u32 x264003_1] 25 (0, 0))) ∧ (w'.heap[gb264]? = some (.cells #[.slice none 0 0, .string (⟨#[]⟩ : ByteArray), .int .i64 0, .int .u32 0] 25 (0, 0))) ∧ (w'.heap[s_]? = some (.cells #[.slice none 0 0, .string (⟨#[]⟩ : ByteArray), .int .i64 0, .int .u32 0] 25 (0, 0))) ∧ (w.heap.size ≤ s_) ∧ (w.heap.size ≤ s_) ∧ (gb263 ≠ s_) ∧ (s_ ≠ gb263) ∧ (gb264 ≠ s_) ∧ (s_ ≠ gb264) ∧ (Below w.heap.size w w')) ?_ ?_
                                      rotate_left
                                      · intro hCont
                                        refine two_ (i := 2) (j := 14) (Ni := some 60) (Nj := some 8) zb12_Px26 zb13_Px26 rfl rfl rfl rfl (two_of HT_.out (by kernel_rfl)) (by decide) (by decide) (fun K hK => ?_) (fun K hK => ?_)
                                        · skip
                                          refine goes_ Try.func37 (by kernel_rfl) rfl #[.string (a0.extract 4 8)] (by rfl) rfl rfl (by (try simp only [List.map_toArray, List.map_cons, List.map_nil]); first | done | rfl | (simp only [List.length_drop, List.length_take]; rfl)) ?_
                                          with_reducible refine (hibernacleref01_Get.calls kj5 (a0.extract 4 8) t267 _ A40.out).mono ?_
                                          rintro e w' ⟨rfl, ⟨nd, rfl⟩⟩
                                          refine ⟨_, rfl, ?_⟩
                                          refine hK.out _ _ trivial (fun hHeld => ?_)
                                          clear hK K
                                          refine norm_ (a' := ?_) ?_ ?_
                                          rotate_left
                                          · show Act.put _ (some 60) _ = _
                                            simp only [Act.put, List.setIfInBounds_toArray, List.set_cons_zero, List.set_cons_succ, i64_w, i32_w]
                                            rfl
                                          refine pure_ (i := 3) (N := some 61) (v := ?_) (a' := ?_) zb14_Px26 rfl rfl (any_of HT_.out (by kernel_rfl)) (fun _ _ _ h => h) (Or.inl ⟨by rfl, ?_⟩) ?_ ?_
                                          rotate_left
                                          · intro w'
                                            go_simp
                                            with_reducible rfl
                                          rotate_left
                                          · simp only [Act.put, List.setIfInBounds_toArray, List.set_cons_zero, List.set_cons_succ, i64_w, i32_w]
                                            rfl
                                          refine two_ (i := 6) (j := 14) (Ni := some 64) (Nj := some 8) zb15_Px26 zb16_Px26 rfl rfl rfl rfl (two_of HT_.out (by kernel_rfl)) (by decide) (by decide) (fun K hK => ?_) (fun K hK => ?_)
                                          · skip
                                            refine goes_ Try.func37 (by kernel_rfl) rfl #[.string (a0.extract 12 14)] (by rfl) rfl rfl (by (try simp only [List.map_toArray, List.map_cons, List.map_nil]); first | done | rfl | (simp only [List.length_drop, List.length_take]; rfl)) ?_
                                            with_reducible refine (hibernacleref01_Get.calls kj5 (a0.extract 12 14) t268 _ A43.out).mono ?_
                                            rintro e w' ⟨rfl, ⟨nd, rfl⟩⟩
                                            refine ⟨_, rfl, ?_⟩
                                            refine hK.out _ _ trivial (fun hHeld => ?_)
                                            clear hK K
                                            refine norm_ (a' := ?_) ?_ ?_
                                            rotate_left
                                            · show Act.put _ (some 64) _ = _
                                              simp only [Act.put, List.setIfInBounds_toArray, List.set_cons_zero, List.set_cons_succ, i64_w, i32_w]
                                              rfl
                                            refine pure_ (i := 7) (N := some 65) (v := ?_) (a' := ?_) zb17_Px26 rfl rfl (any_of HT_.out (by kernel_rfl)) (fun _ _ _ h => h) (Or.inl ⟨by rfl, ?_⟩) ?_ ?_
                                            rotate_left
                                            · intro w'
                                              go_simp
                                              with_reducible rfl
                                            rotate_left
                                            · simp only [Act.put, List.setIfInBounds_toArray, List.set_cons_zero, List.set_cons_succ, i64_w, i32_w]
                                              rfl
                                            refine pure_ (i := 13) (N := some 71) (v := ?_) (a' := ?_) zb18_Px26 rfl rfl (any_of HT_.out (by kernel_rfl)) (fun _ _ _ h => h) (Or.inl ⟨by rfl, ?_⟩) ?_ ?_
                                            rotate_left
                                            · intro w'
                                              go_simp
                                              with_reducible rfl
                                            rotate_left
                                            · simp only [Act.put, List.setIfInBounds_toArray, List.set_cons_zero, List.set_cons_succ, i64_w, i32_w]
                                              rfl
                                            refine one_ (i := 14) (N := some 8) zb11_Px26 rfl rfl (one_of HT_.out (by kernel_rfl)) (by decide) (fun K hK => ?_)
                                            refine box_step ?hg (N := 8) ?hd (cs := #[.slice none 0 0, .string (⟨#[]⟩ : ByteArray), .int .i64 0, .int .u32 0]) (t := 25) ?hr ?_; (case hd => rfl); (case hg => rfl); (case hr => first | (go_simp; done) | (go_simp; rfl))
                                            intro gb269 hg w48 hbox hb
                                            have n0_ := Aside0.mk (blk_below (g := gb263) (o := .cells #[.slice none 0 0, .string x264001_1, .int .i64 x264002_1, .int .u32 x264003_1] 25 (0, 0)) (by (with_reducible repeat (first | refine blk_drewN ?_ _ | refine blk_drew ?_ | refine blk_alloc ?_ _)); exact BK263.out) hb)
                                            have n1_ := Aside0.mk (blk_below (g := gb264) (o := .cells #[.slice none 0 0, .string (⟨#[]⟩ : ByteArray), .int .i64 0, .int .u32 0] 25 (0, 0)) (by (with_reducible repeat (first | refine blk_drewN ?_ _ | refine blk_drew ?_ | refine blk_alloc ?_ _)); exact BK264.out) hb)
                                            have n2_ := Aside0.mk (below_step (by repeat (first | (with_reducible first | exact HB.out | apply below_alloc | apply pw_below_drewN | apply below_drew1 | refine below_set ?_ GE263.out | refine below_set ?_ GE264.out) | exact HB.out)) hb)
                                            have n3_ := Aside0.mk (hbox)
                                            have n4_ := Aside0.mk ((by rw [hg]; exact (below_size (by repeat (first | (with_reducible first | exact HB.out | apply below_alloc | apply pw_below_drewN | apply below_drew1 | refine below_set ?_ GE263.out | refine below_set ?_ GE264.out) | exact HB.out))) : w.heap.size ≤ gb269))
                                            have n5_ := Aside0.mk ((by rw [hg]; exact (below_size (by repeat (first | (with_reducible first | exact HB.out | apply below_alloc | apply pw_below_drewN | apply below_drew1 | refine below_set ?_ GE263.out | refine below_set ?_ GE264.out) | exact HB.out))) : w.heap.size ≤ gb269))
                                            have n6_ := Aside0.mk ((by rw [hg]; exact Nat.ne_of_lt (blk_lt (g := gb263) (o := .cells #[.slice none 0 0, .string x264001_1, .int .i64 x264002_1, .int .u32 x264003_1] 25 (0, 0)) (by (with_reducible repeat (first | refine blk_drewN ?_ _ | refine blk_drew ?_ | refine blk_alloc ?_ _)); exact BK263.out)) : gb263 ≠ gb269))
                                            have n7_ := Aside0.mk ((by rw [hg]; exact Nat.ne_of_gt (blk_lt (g := gb263) (o := .cells #[.slice none 0 0, .string x264001_1, .int .i64 x264002_1, .int .u32 x264003_1] 25 (0, 0)) (by (with_reducible repeat (first | refine blk_drewN ?_ _ | refine blk_drew ?_ | refine blk_alloc ?_ _)); exact BK263.out)) : gb269 ≠ gb263))
                                            have n8_ := Aside0.mk ((by rw [hg]; exact Nat.ne_of_lt (blk_lt (g := gb264) (o := .cells #[.slice none 0 0, .string (⟨#[]⟩ : ByteArray), .int .i64 0, .int .u32 0] 25 (0, 0)) (by (with_reducible repeat (first | refine blk_drewN ?_ _ | refine blk_drew ?_ | refine blk_alloc ?_ _)); exact BK264.out)) : gb264 ≠ gb269))
                                            have n9_ := Aside0.mk ((by rw [hg]; exact Nat.ne_of_gt (blk_lt (g := gb264) (o := .cells #[.slice none 0 0, .string (⟨#[]⟩ : ByteArray), .int .i64 0, .int .u32 0] 25 (0, 0)) (by (with_reducible repeat (first | refine blk_drewN ?_ _ | refine blk_drew ?_ | refine blk_alloc ?_ _)); exact BK264.out)) : gb269 ≠ gb264))
                                            clear BK263
                                            clear BK264
                                            clear HB
                                            have BK263 := n0_
                                            have BK264 := n1_
                                            have HB := n2_
                                            have BK269 := n3_
                                            have GW269 := n4_
                                            have GE269 := n5_
                                            have NB263_269 := n6_
                                            have NB269_263 := n7_
                                            have NB264_269 := n8_
                                            have NB269_264 := n9_
                                            clear n0_ n1_ n2_ n3_ n4_ n5_ n6_ n7_ n8_ n9_
                                            clear hb hbox hg
                                            refine hK.out _ _ trivial (fun hHeld => ?_)
                                            clear hK K
                                            refine norm_ (a' := ?_) ?_ ?_
                                            rotate_left
                                            · show Act.put _ (some 8) _ = _
                                              simp only [Act.put, List.setIfInBounds_toArray, List.set_cons_zero, List.set_cons_succ, i64_w, i32_w]
                                              rfl
                                            exact norm_ (by simp only [putAll, Act.put, List.setIfInBounds_toArray, List.set_cons_zero, List.set_cons_succ]) (hCont (gb269) _ ⟨(by (with_reducible repeat (first | refine blk_drewN ?_ _ | refine blk_drew ?_ | refine blk_alloc ?_ _)); exact BK263.out), (by (with_reducible repeat (first | refine blk_drewN ?_ _ | refine blk_drew ?_ | refine blk_alloc ?_ _)); exact BK264.out), (by (with_reducible repeat (first | refine blk_drewN ?_ _ | refine blk_drew ?_ | refine blk_alloc ?_ _)); exact BK269.out), GW269.out, GE269.out, NB263_269.out, NB269_263.out, NB264_269.out, NB269_264.out, (by repeat (first | (with_reducible first | exact HB.out | apply below_alloc | apply pw_below_drewN | apply below_drew1 | refine below_set ?_ GE263.out | refine below_set ?_ GE264.out | refine below_set ?_ GE269.out) | exact HB.out))⟩)
                                          · skip
                                            refine box_step ?hg (N := 8) ?hd (cs := #[.slice none 0 0, .string (⟨#[]⟩ : ByteArray), .int .i64 0, .int .u32 0]) (t := 25) ?hr ?_; (case hd => rfl); (case hg => rfl); (case hr => first | (go_simp; done) | (go_simp; rfl))
                                            intro gb269 hg w48 hbox hb
                                            have n0_ := Aside0.mk (blk_below (g := gb263) (o := .cells #[.slice none 0 0, .string x264001_1, .int .i64 x264002_1, .int .u32 x264003_1] 25 (0, 0)) (by (with_reducible repeat (first | refine blk_drewN ?_ _ | refine blk_drew ?_ | refine blk_alloc ?_ _)); exact BK263.out) hb)
                                            have n1_ := Aside0.mk (blk_below (g := gb264) (o := .cells #[.slice none 0 0, .string (⟨#[]⟩ : ByteArray), .int .i64 0, .int .u32 0] 25 (0, 0)) (by (with_reducible repeat (first | refine blk_drewN ?_ _ | refine blk_drew ?_ | refine blk_alloc ?_ _)); exact BK264.out) hb)
                                            have n2_ := Aside0.mk (below_step (by repeat (first | (with_reducible first | exact HB.out | apply below_alloc | apply pw_below_drewN | apply below_drew1 | refine below_set ?_ GE263.out | refine below_set ?_ GE264.out) | exact HB.out)) hb)
                                            have n3_ := Aside0.mk (hbox)
                                            have n4_ := Aside0.mk ((by rw [hg]; exact (below_size (by repeat (first | (with_reducible first | exact HB.out | apply below_alloc | apply pw_below_drewN | apply below_drew1 | refine below_set ?_ GE263.out | refine below_set ?_ GE264.out) | exact HB.out))) : w.heap.size ≤ gb269))
                                            have n5_ := Aside0.mk ((by rw [hg]; exact (below_size (by repeat (first | (with_reducible first | exact HB.out | apply below_alloc | apply pw_below_drewN | apply below_drew1 | refine below_set ?_ GE263.out | refine below_set ?_ GE264.out) | exact HB.out))) : w.heap.size ≤ gb269))
                                            have n6_ := Aside0.mk ((by rw [hg]; exact Nat.ne_of_lt (blk_lt (g := gb263) (o := .cells #[.slice none 0 0, .string x264001_1, .int .i64 x264002_1, .int .u32 x264003_1] 25 (0, 0)) (by (with_reducible repeat (first | refine blk_drewN ?_ _ | refine blk_drew ?_ | refine blk_alloc ?_ _)); exact BK263.out)) : gb263 ≠ gb269))
                                            have n7_ := Aside0.mk ((by rw [hg]; exact Nat.ne_of_gt (blk_lt (g := gb263) (o := .cells #[.slice none 0 0, .string x264001_1, .int .i64 x264002_1, .int .u32 x264003_1] 25 (0, 0)) (by (with_reducible repeat (first | refine blk_drewN ?_ _ | refine blk_drew ?_ | refine blk_alloc ?_ _)); exact BK263.out)) : gb269 ≠ gb263))
                                            have n8_ := Aside0.mk ((by rw [hg]; exact Nat.ne_of_lt (blk_lt (g := gb264) (o := .cells #[.slice none 0 0, .string (⟨#[]⟩ : ByteArray), .int .i64 0, .int .u32 0] 25 (0, 0)) (by (with_reducible repeat (first | refine blk_drewN ?_ _ | refine blk_drew ?_ | refine blk_alloc ?_ _)); exact BK264.out)) : gb264 ≠ gb269))
                                            have n9_ := Aside0.mk ((by rw [hg]; exact Nat.ne_of_gt (blk_lt (g := gb264) (o := .cells #[.slice none 0 0, .string (⟨#[]⟩ : ByteArray), .int .i64 0, .int .u32 0] 25 (0, 0)) (by (with_reducible repeat (first | refine blk_drewN ?_ _ | refine blk_drew ?_ | refine blk_alloc ?_ _)); exact BK264.out)) : gb269 ≠ gb264))
                                            clear BK263
                                            clear BK264
                                            clear HB
                                            have BK263 := n0_
                                            have BK264 := n1_
                                            have HB := n2_
                                            have BK269 := n3_
                                            have GW269 := n4_
                                            have GE269 := n5_
                                            have NB263_269 := n6_
                                            have NB269_263 := n7_
                                            have NB264_269 := n8_
                                            have NB269_264 := n9_
                                            clear n0_ n1_ n2_ n3_ n4_ n5_ n6_ n7_ n8_ n9_
                                            clear hb hbox hg
                                            refine hK.out _ _ trivial (fun hHeld => ?_)
                                            clear hK K
                                            refine norm_ (a' := ?_) ?_ ?_
                                            rotate_left
                                            · show Act.put _ (some 8) _ = _
                                              simp only [Act.put, List.setIfInBounds_toArray, List.set_cons_zero, List.set_cons_succ, i64_w, i32_w]
                                              rfl
                                            refine one_ (i := 6) (N := some 64) zb19_Px26 rfl rfl (one_of HT_.out (by kernel_rfl)) (by decide) (fun K hK => ?_)
                                            refine goes_ Try.func37 (by kernel_rfl) rfl #[.string (a0.extract 12 14)] (by rfl) rfl rfl (by (try simp only [List.map_toArray, List.map_cons, List.map_nil]); first | done | rfl | (simp only [List.length_drop, List.length_take]; rfl)) ?_
                                            with_reducible refine (hibernacleref01_Get.calls kj5 (a0.extract 12 14) t268 _ A43.out).mono ?_
                                            rintro e w' ⟨rfl, ⟨nd, rfl⟩⟩
                                            refine ⟨_, rfl, ?_⟩
                                            refine hK.out _ _ trivial (fun hHeld => ?_)
                                            clear hK K
                                            refine norm_ (a' := ?_) ?_ ?_
                                            rotate_left
                                            · show Act.put _ (some 64) _ = _
                                              simp only [Act.put, List.setIfInBounds_toArray, List.set_cons_zero, List.set_cons_succ, i64_w, i32_w]
                                              rfl
                                            refine pure_ (i := 7) (N := some 65) (v := ?_) (a' := ?_) zb20_Px26 rfl rfl (any_of HT_.out (by kernel_rfl)) (fun _ _ _ h => h) (Or.inl ⟨by rfl, ?_⟩) ?_ ?_
                                            rotate_left
                                            · intro w'
                                              go_simp
                                              with_reducible rfl
                                            rotate_left
                                            · simp only [Act.put, List.setIfInBounds_toArray, List.set_cons_zero, List.set_cons_succ, i64_w, i32_w]
                                              rfl
                                            refine pure_ (i := 13) (N := some 71) (v := ?_) (a' := ?_) zb11_Px26 rfl rfl (any_of HT_.out (by kernel_rfl)) (fun _ _ _ h => h) (Or.inl ⟨by rfl, ?_⟩) ?_ ?_
                                            rotate_left
                                            · intro w'
                                              go_simp
                                              with_reducible rfl
                                            rotate_left
                                            · simp only [Act.put, List.setIfInBounds_toArray, List.set_cons_zero, List.set_cons_succ, i64_w, i32_w]
                                              rfl
                                            exact norm_ (by simp only [putAll, Act.put, List.setIfInBounds_toArray, List.set_cons_zero, List.set_cons_succ]) (hCont (gb269) _ ⟨(by (with_reducible repeat (first | refine blk_drewN ?_ _ | refine blk_drew ?_ | refine blk_alloc ?_ _)); exact BK263.out), (by (with_reducible repeat (first | refine blk_drewN ?_ _ | refine blk_drew ?_ | refine blk_alloc ?_ _)); exact BK264.out), (by (with_reducible repeat (first | refine blk_drewN ?_ _ | refine blk_drew ?_ | refine blk_alloc ?_ _)); exact BK269.out), GW269.out, GE269.out, NB263_269.out, NB269_263.out, NB264_269.out, NB269_264.out, (by repeat (first | (with_reducible first | exact HB.out | apply below_alloc | apply pw_below_drewN | apply below_drew1 | refine below_set ?_ GE263.out | refine below_set ?_ GE264.out | refine below_set ?_ GE269.out) | exact HB.out))⟩)
                                        · skip
                                          refine box_step ?hg (N := 8) ?hd (cs := #[.slice none 0 0, .string (⟨#[]⟩ : ByteArray), .int .i64 0, .int .u32 0]) (t := 25) ?hr ?_; (case hd => rfl); (case hg => rfl); (case hr => first | (go_simp; done) | (go_simp; rfl))
                                          intro gb269 hg w48 hbox hb
                                          have n0_ := Aside0.mk (blk_below (g := gb263) (o := .cells #[.slice none 0 0, .string x264001_1, .int .i64 x264002_1, .int .u32 x264003_1] 25 (0, 0)) (by (with_reducible repeat (first | refine blk_drewN ?_ _ | refine blk_drew ?_ | refine blk_alloc ?_ _)); exact BK263.out) hb)
                                          have n1_ := Aside0.mk (blk_below (g := gb264) (o := .cells #[.slice none 0 0, .string (⟨#[]⟩ : ByteArray), .int .i64 0, .int .u32 0] 25 (0, 0)) (by (with_reducible repeat (first | refine blk_drewN ?_ _ | refine blk_drew ?_ | refine blk_alloc ?_ _)); exact BK264.out) hb)
                                          have n2_ := Aside0.mk (below_step (by repeat (first | (with_reducible first | exact HB.out | apply below_alloc | apply pw_below_drewN | apply below_drew1 | refine below_set ?_ GE263.out | refine below_set ?_ GE264.out) | exact HB.out)) hb)
                                          have n3_ := Aside0.mk (hbox)
                                          have n4_ := Aside0.mk ((by rw [hg]; exact (below_size (by repeat (first | (with_reducible first | exact HB.out | apply below_alloc | apply pw_below_drewN | apply below_drew1 | refine below_set ?_ GE263.out | refine below_set ?_ GE264.out) | exact HB.out))) : w.heap.size ≤ gb269))
                                          have n5_ := Aside0.mk ((by rw [hg]; exact (below_size (by repeat (first | (with_reducible first | exact HB.out | apply below_alloc | apply pw_below_drewN | apply below_drew1 | refine below_set ?_ GE263.out | refine below_set ?_ GE264.out) | exact HB.out))) : w.heap.size ≤ gb269))
                                          have n6_ := Aside0.mk ((by rw [hg]; exact Nat.ne_of_lt (blk_lt (g := gb263) (o := .cells #[.slice none 0 0, .string x264001_1, .int .i64 x264002_1, .int .u32 x264003_1] 25 (0, 0)) (by (with_reducible repeat (first | refine blk_drewN ?_ _ | refine blk_drew ?_ | refine blk_alloc ?_ _)); exact BK263.out)) : gb263 ≠ gb269))
                                          have n7_ := Aside0.mk ((by rw [hg]; exact Nat.ne_of_gt (blk_lt (g := gb263) (o := .cells #[.slice none 0 0, .string x264001_1, .int .i64 x264002_1, .int .u32 x264003_1] 25 (0, 0)) (by (with_reducible repeat (first | refine blk_drewN ?_ _ | refine blk_drew ?_ | refine blk_alloc ?_ _)); exact BK263.out)) : gb269 ≠ gb263))
                                          have n8_ := Aside0.mk ((by rw [hg]; exact Nat.ne_of_lt (blk_lt (g := gb264) (o := .cells #[.slice none 0 0, .string (⟨#[]⟩ : ByteArray), .int .i64 0, .int .u32 0] 25 (0, 0)) (by (with_reducible repeat (first | refine blk_drewN ?_ _ | refine blk_drew ?_ | refine blk_alloc ?_ _)); exact BK264.out)) : gb264 ≠ gb269))
                                          have n9_ := Aside0.mk ((by rw [hg]; exact Nat.ne_of_gt (blk_lt (g := gb264) (o := .cells #[.slice none 0 0, .string (⟨#[]⟩ : ByteArray), .int .i64 0, .int .u32 0] 25 (0, 0)) (by (with_reducible repeat (first | refine blk_drewN ?_ _ | refine blk_drew ?_ | refine blk_alloc ?_ _)); exact BK264.out)) : gb269 ≠ gb264))
                                          clear BK263
                                          clear BK264
                                          clear HB
                                          have BK263 := n0_
                                          have BK264 := n1_
                                          have HB := n2_
                                          have BK269 := n3_
                                          have GW269 := n4_
                                          have GE269 := n5_
                                          have NB263_269 := n6_
                                          have NB269_263 := n7_
                                          have NB264_269 := n8_
                                          have NB269_264 := n9_
                                          clear n0_ n1_ n2_ n3_ n4_ n5_ n6_ n7_ n8_ n9_
                                          clear hb hbox hg
                                          refine hK.out _ _ trivial (fun hHeld => ?_)
                                          clear hK K
                                          refine norm_ (a' := ?_) ?_ ?_
                                          rotate_left
                                          · show Act.put _ (some 8) _ = _
                                            simp only [Act.put, List.setIfInBounds_toArray, List.set_cons_zero, List.set_cons_succ, i64_w, i32_w]
                                            rfl
                                          refine one_ (i := 2) (N := some 60) zb21_Px26 rfl rfl (one_of HT_.out (by kernel_rfl)) (by decide) (fun K hK => ?_)
                                          refine goes_ Try.func37 (by kernel_rfl) rfl #[.string (a0.extract 4 8)] (by rfl) rfl rfl (by (try simp only [List.map_toArray, List.map_cons, List.map_nil]); first | done | rfl | (simp only [List.length_drop, List.length_take]; rfl)) ?_
                                          with_reducible refine (hibernacleref01_Get.calls kj5 (a0.extract 4 8) t267 _ A40.out).mono ?_
                                          rintro e w' ⟨rfl, ⟨nd, rfl⟩⟩
                                          refine ⟨_, rfl, ?_⟩
                                          refine hK.out _ _ trivial (fun hHeld => ?_)
                                          clear hK K
                                          refine norm_ (a' := ?_) ?_ ?_
                                          rotate_left
                                          · show Act.put _ (some 60) _ = _
                                            simp only [Act.put, List.setIfInBounds_toArray, List.set_cons_zero, List.set_cons_succ, i64_w, i32_w]
                                            rfl
                                          refine pure_ (i := 3) (N := some 61) (v := ?_) (a' := ?_) zb16_Px26 rfl rfl (any_of HT_.out (by kernel_rfl)) (fun _ _ _ h => h) (Or.inl ⟨by rfl, ?_⟩) ?_ ?_
                                          rotate_left
                                          · intro w'
                                            go_simp
                                            with_reducible rfl
                                          rotate_left
                                          · simp only [Act.put, List.setIfInBounds_toArray, List.set_cons_zero, List.set_cons_succ, i64_w, i32_w]
                                            rfl
                                          refine one_ (i := 6) (N := some 64) zb19_Px26 rfl rfl (one_of HT_.out (by kernel_rfl)) (by decide) (fun K hK => ?_)
                                          refine goes_ Try.func37 (by kernel_rfl) rfl #[.string (a0.extract 12 14)] (by rfl) rfl rfl (by (try simp only [List.map_toArray, List.map_cons, List.map_nil]); first | done | rfl | (simp only [List.length_drop, List.length_take]; rfl)) ?_
                                          with_reducible refine (hibernacleref01_Get.calls kj5 (a0.extract 12 14) t268 _ A43.out).mono ?_
                                          rintro e w' ⟨rfl, ⟨nd, rfl⟩⟩
                                          refine ⟨_, rfl, ?_⟩
                                          refine hK.out _ _ trivial (fun hHeld => ?_)
                                          clear hK K
                                          refine norm_ (a' := ?_) ?_ ?_
                                          rotate_left
                                          · show Act.put _ (some 64) _ = _
                                            simp only [Act.put, List.setIfInBounds_toArray, List.set_cons_zero, List.set_cons_succ, i64_w, i32_w]
                                            rfl
                                          refine pure_ (i := 7) (N := some 65) (v := ?_) (a' := ?_) zb20_Px26 rfl rfl (any_of HT_.out (by kernel_rfl)) (fun _ _ _ h => h) (Or.inl ⟨by rfl, ?_⟩) ?_ ?_
                                          rotate_left
                                          · intro w'
                                            go_simp
                                            with_reducible rfl
                                          rotate_left
                                          · simp only [Act.put, List.setIfInBounds_toArray, List.set_cons_zero, List.set_cons_succ, i64_w, i32_w]
                                            rfl
                                          refine pure_ (i := 13) (N := some 71) (v := ?_) (a' := ?_) zb11_Px26 rfl rfl (any_of HT_.out (by kernel_rfl)) (fun _ _ _ h => h) (Or.inl ⟨by rfl, ?_⟩) ?_ ?_
                                          rotate_left
                                          · intro w'
                                            go_simp
                                            with_reducible rfl
                                          rotate_left
                                          · simp only [Act.put, List.setIfInBounds_toArray, List.set_cons_zero, List.set_cons_succ, i64_w, i32_w]
                                            rfl
                                          exact norm_ (by simp only [putAll, Act.put, List.setIfInBounds_toArray, List.set_cons_zero, List.set_cons_succ]) (hCont (gb269) _ ⟨(by (with_reducible repeat (first | refine blk_drewN ?_ _ | refine blk_drew ?_ | refine blk_alloc ?_ _)); exact BK263.out), (by (with_reducible repeat (first | refine blk_drewN ?_ _ | refine blk_drew ?_ | refine blk_alloc ?_ _)); exact BK264.out), (by (with_reducible repeat (first | refine blk_drewN ?_ _ | refine blk_drew ?_ | refine blk_alloc ?_ _)); exact BK269.out), GW269.out, GE269.out, NB263_269.out, NB269_263.out, NB264_269.out, NB269_264.out, (by repeat (first | (with_reducible first | exact HB.out | apply below_alloc | apply pw_below_drewN | apply below_drew1 | refine below_set ?_ GE263.out | refine below_set ?_ GE264.out | refine below_set ?_ GE269.out) | exact HB.out))⟩)
                                      rintro gb269 w49 ⟨h0_, h1_, h2_, h3_, h4_, h5_, h6_, h7_, h8_, h9_⟩
                                      have n0_ : Aside0 (w49.heap[gb263]? = some (.cells #[.slice none 0 0, .string x264001_1, .int .i64 x264002_1, .int .u32 x264003_1] 25 (0, 0))) := ⟨h0_⟩
                                      have n1_ : Aside0 (w49.heap[gb264]? = some (.cells #[.slice none 0 0, .string (⟨#[]⟩ : ByteArray), .int .i64 0, .int .u32 0] 25 (0, 0))) := ⟨h1_⟩
                                      have n2_ : Aside0 (w49.heap[gb269]? = some (.cells #[.slice none 0 0, .string (⟨#[]⟩ : ByteArray), .int .i64 0, .int .u32 0] 25 (0, 0))) := ⟨h2_⟩
                                      have n3_ : Aside0 (w.heap.size ≤ gb269) := ⟨h3_⟩
                                      have n4_ : Aside0 (w.heap.size ≤ gb269) := ⟨h4_⟩
                                      have n5_ : Aside0 (gb263 ≠ gb269) := ⟨h5_⟩
                                      have n6_ : Aside0 (gb269 ≠ gb263) := ⟨h6_⟩
                                      have n7_ : Aside0 (gb264 ≠ gb269) := ⟨h7_⟩
                                      have n8_ : Aside0 (gb269 ≠ gb264) := ⟨h8_⟩
                                      have n9_ : Aside0 (Below w.heap.size w w49) := ⟨h9_⟩
                                      clear BK263
                                      clear BK264
                                      clear HB
                                      clear h0_ h1_ h2_ h3_ h4_ h5_ h6_ h7_ h8_ h9_
                                      have BK263 := n0_
                                      have BK264 := n1_
                                      have BK269 := n2_
                                      have GW269 := n3_
                                      have GE269 := n4_
                                      have NB263_269 := n5_
                                      have NB269_263 := n6_
                                      have NB264_269 := n7_
                                      have NB269_264 := n8_
                                      have HB := n9_
                                      clear n0_ n1_ n2_ n3_ n4_ n5_ n6_ n7_ n8_ n9_
                                      have hHeld := trivial
                                      refine norm_ (a' := ?_) ?_ ?_
                                      rotate_left
                                      · simp only [putAll, Act.put, List.setIfInBounds_toArray, List.set_cons_zero, List.set_cons_succ]
                                        rfl
                                      refine one_ (i := 15) (N := none) zb22_Px26 rfl rfl (one_of HT_.out (by kernel_rfl)) (by decide) (fun K hK => ?_)
                                      have hs50 : w49.cell? ⟨gb269, 0, none⟩ = some (.slice none 0 0) := (blk_cell BK269.out 0).trans rfl
                                      have hfs50 := blk_frozen BK269.out 0
                                      have hns50_0 := NB263_269.out
                                      have hns50_1 := NB264_269.out
                                      have hms50_0 := NB269_263.out
                                      have hms50_1 := NB269_264.out
                                      have hs51 : w49.cell? ⟨gb269, 1, none⟩ = some (.string (⟨#[]⟩ : ByteArray)) := (blk_cell BK269.out 1).trans rfl
                                      have hfs51 := blk_frozen BK269.out 1
                                      have hns51_0 := NB263_269.out
                                      have hns51_1 := NB264_269.out
                                      have hms51_0 := NB269_263.out
                                      have hms51_1 := NB269_264.out
                                      have hs52 : w49.cell? ⟨gb269, 2, none⟩ = some (.int .i64 0) := (blk_cell BK269.out 2).trans rfl
                                      have hfs52 := blk_frozen BK269.out 2
                                      have hns52_0 := NB263_269.out
                                      have hns52_1 := NB264_269.out
                                      have hms52_0 := NB269_263.out
                                      have hms52_1 := NB269_264.out
                                      have hs53 : w49.cell? ⟨gb269, 3, none⟩ = some (.int .u32 0) := (blk_cell BK269.out 3).trans rfl
                                      have hfs53 := blk_frozen BK269.out 3
                                      have hns53_0 := NB263_269.out
                                      have hns53_1 := NB264_269.out
                                      have hms53_0 := NB269_263.out
                                      have hms53_1 := NB269_264.out
                                      refine skip_ (w1 := ?_) (by rfl) rfl ?_ ?_
                                      rotate_left
                                      · go_simp
                                        rfl
                                      refine hK.out _ _ trivial (fun hHeld => ?_)
                                      clear hK K
                                      refine done_ (done_of HT_.out (by kernel_rfl)) ?_
                                      try go_wp2
                                      go_loopg [9] kj5 (fun kq v9 w' => ∃ (x9_3 : Int) (x270000_3 : List Int) (u270000 : Value), v9 = .int .i64 x9_3 ∧ Aside0 (hibernacleref12_Of.l1 kq a0 (wrap64 (t265)) x9_3 (⟨#[]⟩ : ByteArray) 0 0 x270000_3 (a0.extract ((ji44) : Int).toNat a0.size) (wrap64 (t268)) (IntKind.u32.wrap (t267)) = some (r1, r2, r3, r4, r5)) ∧ Aside0 (kq ≤ kj5) ∧ Aside0 (Kd.R (Kd.int .u32) 23 w' w.heap.size (fun _ => True) u270000 x270000_3) ∧ Aside0 (w'.heap[gb263]? = some (.cells #[(.slice none 0 0), .string x264001_1, .int .i64 x264002_1, .int .u32 x264003_1] 25 (0, 0))) ∧ Aside0 (w'.heap[gb264]? = some (.cells #[(.slice none 0 0), .string (⟨#[]⟩ : ByteArray), .int .i64 0, .int .u32 0] 25 (0, 0))) ∧ Aside0 (w'.heap[gb269]? = some (.cells #[u270000, .string (a0.extract ((ji44) : Int).toNat a0.size), .int .i64 (wrap64 (t268)), .int .u32 (IntKind.u32.wrap (t267))] 25 (0, 0))) ∧ Aside0 (Below w.heap.size w w'))
                                      case atStart => exact ⟨(0), (([] : List Int)), (.slice none 0 0), (by first | rfl | (simp; done) | (simp [*]; done)), H', ⟨Nat.le_refl _⟩, ⟨by first | exact Kd.R_nil _ _ _ _ _ | exact Kd.N_nil _ _ _ _ _ | exact Kd.V_nil _ _ _ _ _ | exact Kd.Q_nil _ _ _ _ _ | exact Kd.S_nil _ _ _ _ _⟩, ⟨by (with_reducible repeat (first | refine blk_drewN ?_ _ | refine blk_drew ?_ | refine blk_alloc ?_ _)); refine blk_far ?_ NB263_269.out _; (with_reducible repeat (first | refine blk_drewN ?_ _ | refine blk_drew ?_ | refine blk_alloc ?_ _)); refine blk_far ?_ NB263_269.out _; (with_reducible repeat (first | refine blk_drewN ?_ _ | refine blk_drew ?_ | refine blk_alloc ?_ _)); refine blk_far ?_ NB263_269.out _; (with_reducible repeat (first | refine blk_drewN ?_ _ | refine blk_drew ?_ | refine blk_alloc ?_ _)); refine blk_far ?_ NB263_269.out _; (with_reducible repeat (first | refine blk_drewN ?_ _ | refine blk_drew ?_ | refine blk_alloc ?_ _)); exact BK263.out⟩, ⟨by (with_reducible repeat (first | refine blk_drewN ?_ _ | refine blk_drew ?_ | refine blk_alloc ?_ _)); refine blk_far ?_ NB264_269.out _; (with_reducible repeat (first | refine blk_drewN ?_ _ | refine blk_drew ?_ | refine blk_alloc ?_ _)); refine blk_far ?_ NB264_269.out _; (with_reducible repeat (first | refine blk_drewN ?_ _ | refine blk_drew ?_ | refine blk_alloc ?_ _)); refine blk_far ?_ NB264_269.out _; (with_reducible repeat (first | refine blk_drewN ?_ _ | refine blk_drew ?_ | refine blk_alloc ?_ _)); refine blk_far ?_ NB264_269.out _; (with_reducible repeat (first | refine blk_drewN ?_ _ | refine blk_drew ?_ | refine blk_alloc ?_ _)); exact BK264.out⟩, ⟨by (with_reducible repeat (first | refine blk_drewN ?_ _ | refine blk_drew ?_ | refine blk_alloc ?_ _)); refine blk_put (cs := #[.slice none 0 0, .string (a0.extract ((ji44) : Int).toNat a0.size), .int .i64 (wrap64 (t268)), .int .u32 0]) ?_ 3 _ rfl; (with_reducible repeat (first | refine blk_drewN ?_ _ | refine blk_drew ?_ | refine blk_alloc ?_ _)); refine blk_put (cs := #[.slice none 0 0, .string (a0.extract ((ji44) : Int).toNat a0.size), .int .i64 0, .int .u32 0]) ?_ 2 _ rfl; (with_reducible repeat (first | refine blk_drewN ?_ _ | refine blk_drew ?_ | refine blk_alloc ?_ _)); refine blk_put (cs := #[.slice none 0 0, .string (⟨#[]⟩ : ByteArray), .int .i64 0, .int .u32 0]) ?_ 1 _ rfl; (with_reducible repeat (first | refine blk_drewN ?_ _ | refine blk_drew ?_ | refine blk_alloc ?_ _)); refine blk_put (cs := #[.slice none 0 0, .string (⟨#[]⟩ : ByteArray), .int .i64 0, .int .u32 0]) ?_ 0 _ rfl; (with_reducible repeat (first | refine blk_drewN ?_ _ | refine blk_drew ?_ | refine blk_alloc ?_ _)); exact BK269.out⟩, ⟨by repeat (first | (with_reducible first | exact HB.out | apply below_alloc | apply pw_below_drewN | apply below_drew1 | refine below_set ?_ GE263.out | refine below_set ?_ GE264.out | refine below_set ?_ GE269.out) | exact HB.out)⟩⟩
                                      case round =>
                                        clear H'
                                        try clear c1
                                        try clear c2
                                        try clear p2
                                        try clear c3
                                        try clear c4
                                        try clear p6
                                        try clear c8
                                        try clear c9
                                        try clear c10
                                        try clear c12
                                        try clear c17
                                        try clear c20
                                        try clear c20b0
                                        try clear c20b1
                                        try clear c21
                                        try clear c24
                                        try clear c24b0
                                        try clear c24b1
                                        try clear c25
                                        try clear c25b0
                                        try clear c25b1
                                        try clear c27
                                        try clear c27b0
                                        try clear c27b1
                                        try clear c28
                                        try clear c28b0
                                        try clear c28b1
                                        try clear c30
                                        try clear c30b0
                                        try clear c31
                                        try clear c34
                                        try clear c34b0
                                        try clear c35
                                        try clear c37
                                        try clear c38
                                        try clear c38b0
                                        try clear c38b1
                                        try clear c39
                                        try clear c39b0
                                        try clear c39b1
                                        try clear c41
                                        try clear c41b0
                                        try clear c41b1
                                        try clear c42
                                        try clear c42b0
                                        try clear c42b1
                                        try clear c45
                                        try clear c45b0
                                        try clear c45b1
                                        try clear c46
                                        try clear c46b0
                                        try clear c46b1
                                        try clear hcz18_0
                                        try clear hcz18_1
                                        try clear hcz18_2
                                        try clear hcz18_3
                                        try clear hcz19_0
                                        try clear hcz19_1
                                        try clear hcz19_2
                                        try clear hcz19_3
                                        try clear hcz22_0
                                        try clear hcz22_1
                                        try clear hcz22_2
                                        try clear hcz22_3
                                        try clear hcz23_0
                                        try clear hcz23_1
                                        try clear hcz23_2
                                        try clear hcz23_3
                                        try clear hcz32_0
                                        try clear hcz32_1
                                        try clear hcz32_2
                                        try clear hcz32_3
                                        try clear hcz33_0
                                        try clear hcz33_1
                                        try clear hcz33_2
                                        try clear hcz33_3
                                        try clear hcz36_0
                                        try clear hcz36_1
                                        try clear hcz36_2
                                        try clear hcz36_3
                                        try clear hcz37_0
                                        try clear hcz37_1
                                        try clear hcz37_2
                                        try clear hcz37_3
                                        try clear hfz18_0
                                        try clear hfz18_1
                                        try clear hfz18_2
                                        try clear hfz18_3
                                        try clear hfz19_0
                                        try clear hfz19_1
                                        try clear hfz19_2
                                        try clear hfz19_3
                                        try clear hfz22_0
                                        try clear hfz22_1
                                        try clear hfz22_2
                                        try clear hfz22_3
                                        try clear hfz23_0
                                        try clear hfz23_1
                                        try clear hfz23_2
                                        try clear hfz23_3
                                        try clear hfz32_0
                                        try clear hfz32_1
                                        try clear hfz32_2
                                        try clear hfz32_3
                                        try clear hfz33_0
                                        try clear hfz33_1
                                        try clear hfz33_2
                                        try clear hfz33_3
                                        try clear hfz36_0
                                        try clear hfz36_1
                                        try clear hfz36_2
                                        try clear hfz36_3
                                        try clear hfz37_0
                                        try clear hfz37_1
                                        try clear hfz37_2
                                        try clear hfz37_3
                                        obtain ⟨x9_3, x270000_3, u270000, rfl, HA, HK3, HO_270000, BK263, BK264, BK269, HB⟩ := hrel
                                        cases gk with
                                        | zero => exact absurd HA.out (by simp [hibernacleref12_Of.l1])
                                        | succ k3 =>
                                          have H := HA.out
                                          clear HA
                                          simp only [hibernacleref12_Of.l1] at H
                                          by_cases c54 : x9_3 < (wrap64 (t265))
                                          · rw [if_pos c54] at H
                                            have c54b0 : decide (x9_3 < (wrap64 (t265))) = true := decide_eq_true c54
                                            clear c54
                                            obtain ⟨ji55, hji55⟩ : ∃ j_ : Int, (wrap64 (14 + (wrap64 (4 * x9_3)))) = j_ := ⟨_, rfl⟩
                                            replace H : (if 0 ≤ (ji55) then (if (ji55) ≤ (wrap64 (18 + (wrap64 (4 * x9_3)))) then (if (wrap64 (18 + (wrap64 (4 * x9_3)))) ≤ (a0.size : Int) then ((hibernacleref01_Get.f k3 (a0.extract ((ji55) : Int).toNat ((wrap64 (18 + (wrap64 (4 * x9_3)))) : Int).toNat)).bind fun t270 => (if x270000_3.length < 35184372088832 then (hibernacleref12_Of.l1 k3 a0 (wrap64 (t265)) (wrap64 (x9_3 + 1)) (⟨#[]⟩ : ByteArray) 0 0 (x270000_3 ++ [IntKind.u32.wrap (t270)]) (a0.extract ((ji44) : Int).toNat a0.size) (wrap64 (t268)) (IntKind.u32.wrap (t267))) else (none))) else (none)) else (none)) else (none)) = some (r1, r2, r3, r4, r5) := by first | (rw [hji55] at H; exact H) | (simp only [hji55] at H ⊢; exact H)
                                            have hji55w : (IntKind.i64.wrap (14 + (wrap64 (4 * x9_3)))) = ji55 := (i64_w _).trans hji55
                                            by_cases c56 : 0 ≤ (ji55)
                                            · rw [if_pos c56] at H
                                              have c56b0 := eq_true c56
                                              have c56b1 : decide (0 ≤ (ji55)) = true := decide_eq_true c56
                                              clear c56
                                              by_cases c57 : (ji55) ≤ (wrap64 (18 + (wrap64 (4 * x9_3))))
                                              · rw [if_pos c57] at H
                                                have c57b0 := eq_true c57
                                                have c57b1 : decide ((ji55) ≤ (wrap64 (18 + (wrap64 (4 * x9_3))))) = true := decide_eq_true c57
                                                by_cases c58 : (wrap64 (18 + (wrap64 (4 * x9_3)))) ≤ (a0.size : Int)
                                                · rw [if_pos c58] at H
                                                  have c58b0 := eq_true c58
                                                  have c58b1 : decide ((wrap64 (18 + (wrap64 (4 * x9_3)))) ≤ (a0.size : Int)) = true := decide_eq_true c58
                                                  replace H := Option.bind_eq_some_iff.mp H
                                                  obtain ⟨t270, A590, H⟩ := H
                                                  replace H : (if x270000_3.length < 35184372088832 then (hibernacleref12_Of.l1 k3 a0 (wrap64 (t265)) (wrap64 (x9_3 + 1)) (⟨#[]⟩ : ByteArray) 0 0 (x270000_3 ++ [IntKind.u32.wrap (t270)]) (a0.extract ((ji44) : Int).toNat a0.size) (wrap64 (t268)) (IntKind.u32.wrap (t267))) else (none)) = some (r1, r2, r3, r4, r5) := H
                                                  have A59 := Aside0.mk A590
                                                  clear A590
                                                  by_cases c60 : x270000_3.length < 35184372088832
                                                  · rw [if_pos c60] at H
                                                    have LMc60 := Aside0.mk c60
                                                    clear c60
                                                    obtain ⟨y271, hy271⟩ : ∃ y_ : List Int, y_ = (x270000_3 ++ [IntKind.u32.wrap (t270)]) := ⟨_, rfl⟩
                                                    replace H : (hibernacleref12_Of.l1 k3 a0 (wrap64 (t265)) (wrap64 (x9_3 + 1)) (⟨#[]⟩ : ByteArray) 0 0 y271 (a0.extract ((ji44) : Int).toNat a0.size) (wrap64 (t268)) (IntKind.u32.wrap (t267))) = some (r1, r2, r3, r4, r5) := by first | (rw [hy271]; with_reducible exact H) | (have H2_ := (Option.bind_some _ _).symm.trans H; rw [hy271]; with_reducible exact H2_) | (have H2_ := (Option.bind_some _ _).symm.trans H; with_reducible exact H2_) | with_reducible exact H | (rw [hy271]; exact H) | exact H
                                                    have Ny271 := Aside0.mk hy271
                                                    clear hy271
                                                    have H' := Aside0.mk H
                                                    clear H
                                                    try go_wp2
                                                    have n0_ := Aside0.mk (Kd.R_drew HO_270000.out)
                                                    have n1_ := Aside0.mk (blk_drew BK263.out)
                                                    have n2_ := Aside0.mk (blk_drew BK264.out)
                                                    have n3_ := Aside0.mk (blk_drew BK269.out)
                                                    have n4_ := Aside0.mk (below_drew1 HB.out)
                                                    clear HO_270000
                                                    clear BK263
                                                    clear BK264
                                                    clear BK269
                                                    clear HB
                                                    have HO_270000 := n0_
                                                    have BK263 := n1_
                                                    have BK264 := n2_
                                                    have BK269 := n3_
                                                    have HB := n4_
                                                    clear n0_ n1_ n2_ n3_ n4_
                                                    refine start_ (n := 16) (S := fun w' => w'.cell? ⟨gb269, 0, none⟩ = some (u270000) ∧ w'.cell? ⟨gb269, 1, none⟩ = some (.string (a0.extract ((ji44) : Int).toNat a0.size)) ∧ w'.cell? ⟨gb269, 2, none⟩ = some (.int .i64 (wrap64 (t268))) ∧ w'.cell? ⟨gb269, 3, none⟩ = some (.int .u32 (IntKind.u32.wrap (t267)))) (ds := [15]) zb1_Px26 (by kernel_rfl) rfl rfl ⟨(blk_cell BK269.out 0).trans rfl, (blk_cell BK269.out 1).trans rfl, (blk_cell BK269.out 2).trans rfl, (blk_cell BK269.out 3).trans rfl⟩ (fun hHeld => ?_); refine with_tabW hibernacleref12_Of.tab19 hibernacleref12_Of.bits19 (fun HT_ HW_ => ?_)
                                                    generalize wr.drew = w61 at HO_270000 BK263 BK264 BK269 HB hHeld ⊢
                                                    refine pure_ (i := 0) (N := some 77) (v := ?_) (a' := ?_) zb2_Px26 rfl rfl (any_of HT_.out (by kernel_rfl)) (fun _ _ _ h => h) (Or.inl ⟨by rfl, ?_⟩) ?_ ?_
                                                    rotate_left
                                                    · intro w'
                                                      go_simp
                                                      with_reducible rfl
                                                    rotate_left
                                                    · simp only [Act.put, List.setIfInBounds_toArray, List.set_cons_zero, List.set_cons_succ, i64_w, i32_w]
                                                      rfl
                                                    refine pure_ (i := 2) (N := some 79) (v := ?_) (a' := ?_) zb23_Px26 rfl rfl (any_of HT_.out (by kernel_rfl)) (fun _ _ _ h => h) (Or.inl ⟨by rfl, ?_⟩) ?_ ?_
                                                    rotate_left
                                                    · intro w'
                                                      go_simp
                                                      with_reducible rfl
                                                    rotate_left
                                                    · simp only [Act.put, List.setIfInBounds_toArray, List.set_cons_zero, List.set_cons_succ, i64_w, i32_w]
                                                      rfl
                                                    refine pure_ (i := 3) (N := some 80) (v := ?_) (a' := ?_) zb24_Px26 rfl rfl (any_of HT_.out (by kernel_rfl)) (fun _ _ _ h => h) (Or.inl ⟨by rfl, ?_⟩) ?_ ?_
                                                    rotate_left
                                                    · intro w'
                                                      go_simp
                                                      with_reducible rfl
                                                    rotate_left
                                                    · simp only [Act.put, List.setIfInBounds_toArray, List.set_cons_zero, List.set_cons_succ, i64_w, i32_w]
                                                      rfl
                                                    refine pure_ (i := 4) (N := some 81) (v := ?_) (a' := ?_) zb25_Px26 rfl rfl (any_of HT_.out (by kernel_rfl)) (fun _ _ _ h => h) (Or.inl ⟨by rfl, ?_⟩) ?_ ?_
                                                    rotate_left
                                                    · intro w'
                                                      go_simp
                                                      with_reducible rfl
                                                    rotate_left
                                                    · simp only [Act.put, List.setIfInBounds_toArray, List.set_cons_zero, List.set_cons_succ, i64_w, i32_w]
                                                      rfl
                                                    refine pure_ (i := 5) (N := some 82) (v := ?_) (a' := ?_) zb26_Px26 rfl rfl (any_of HT_.out (by kernel_rfl)) (fun _ _ _ h => h) (Or.inl ⟨by rfl, ?_⟩) ?_ ?_
                                                    rotate_left
                                                    · intro w'
                                                      go_simp
                                                      with_reducible rfl
                                                    rotate_left
                                                    · simp only [Act.put, List.setIfInBounds_toArray, List.set_cons_zero, List.set_cons_succ, i64_w, i32_w]
                                                      rfl
                                                    refine pure_ (i := 6) (N := some 83) (v := ?_) (a' := ?_) zb27_Px26 rfl rfl (any_of HT_.out (by kernel_rfl)) (fun _ _ _ h => h) (Or.inl ⟨by rfl, ?_⟩) ?_ ?_
                                                    rotate_left
                                                    · intro w'
                                                      go_simp
                                                      with_reducible rfl
                                                    rotate_left
                                                    · simp only [Act.put, List.setIfInBounds_toArray, List.set_cons_zero, List.set_cons_succ, i64_w, i32_w]
                                                      rfl
                                                    refine pure_ (i := 7) (N := some 84) (v := ?_) (a' := ?_) zb28_Px26 rfl rfl (any_of HT_.out (by kernel_rfl)) (fun _ _ _ h => h) (Or.inl ⟨by rfl, ?_⟩) ?_ ?_
                                                    rotate_left
                                                    · intro w'
                                                      go_simp
                                                      with_reducible rfl
                                                    rotate_left
                                                    · simp only [Act.put, List.setIfInBounds_toArray, List.set_cons_zero, List.set_cons_succ, i64_w, i32_w]
                                                      rfl
                                                    refine pure_ (i := 8) (N := some 85) (v := ?_) (a' := ?_) zb29_Px26 rfl rfl (any_of HT_.out (by kernel_rfl)) (fun _ _ _ h => h) (Or.inl ⟨by rfl, ?_⟩) ?_ ?_
                                                    rotate_left
                                                    · intro w'
                                                      go_simp
                                                      with_reducible rfl
                                                    rotate_left
                                                    · simp only [Act.put, List.setIfInBounds_toArray, List.set_cons_zero, List.set_cons_succ, i64_w, i32_w]
                                                      rfl
                                                    refine pure_ (i := 9) (N := some 86) (v := ?_) (a' := ?_) zb30_Px26 rfl rfl (any_of HT_.out (by kernel_rfl)) (fun _ _ _ h => h) (Or.inl ⟨by rfl, ?_⟩) ?_ ?_
                                                    rotate_left
                                                    · intro w'
                                                      go_simp
                                                      with_reducible rfl
                                                    rotate_left
                                                    · simp only [Act.put, List.setIfInBounds_toArray, List.set_cons_zero, List.set_cons_succ, i64_w, i32_w]
                                                      rfl
                                                    refine take_ (i := 1) (N := some 78) (v := ?_) (a' := ?_) zb31_Px26 rfl rfl (take_ofW HT_.out HW_.out (by kernel_rfl)) (fun _ _ _ h => h) (Or.inl ⟨by rfl, ?_⟩) hHeld ?_ ?_
                                                    rotate_left
                                                    · rintro w' ⟨s0, s1, s2, s3⟩
                                                      go_simp
                                                      with_reducible rfl
                                                    rotate_left
                                                    · simp only [Act.put, List.setIfInBounds_toArray, List.set_cons_zero, List.set_cons_succ, i64_w, i32_w]
                                                      rfl
                                                    refine one_ (i := 10) (N := some 87) zb32_Px26 rfl rfl (one_of HT_.out (by kernel_rfl)) (by decide) (fun K hK => ?_)
                                                    refine goes_ Try.func37 (by kernel_rfl) rfl #[.string (a0.extract ((ji55) : Int).toNat ((wrap64 (18 + (wrap64 (4 * x9_3)))) : Int).toNat)] (by rfl) rfl rfl (by (try simp only [List.map_toArray, List.map_cons, List.map_nil]); first | done | (simp only [hji55]; rfl) | rfl | (simp only [List.length_drop, List.length_take]; rfl)) ?_
                                                    with_reducible refine (hibernacleref01_Get.calls k3 (a0.extract ((ji55) : Int).toNat ((wrap64 (18 + (wrap64 (4 * x9_3)))) : Int).toNat) t270 _ A59.out).mono ?_
                                                    rintro e w' ⟨rfl, ⟨nd, rfl⟩⟩
                                                    refine ⟨_, rfl, ?_⟩
                                                    refine hK.out _ _ ⟨(blk_cell BK269.out 0).trans rfl, (blk_cell BK269.out 1).trans rfl, (blk_cell BK269.out 2).trans rfl, (blk_cell BK269.out 3).trans rfl⟩ (fun hHeld => ?_)
                                                    clear hK K
                                                    refine norm_ (a' := ?_) ?_ ?_
                                                    rotate_left
                                                    · show Act.put _ (some 87) _ = _
                                                      simp only [Act.put, List.setIfInBounds_toArray, List.set_cons_zero, List.set_cons_succ, i64_w, i32_w]
                                                      rfl
                                                    refine pure_ (i := 11) (N := some 88) (v := ?_) (a' := ?_) zb33_Px26 rfl rfl (any_of HT_.out (by kernel_rfl)) (fun _ _ _ h => h) (Or.inl ⟨by rfl, ?_⟩) ?_ ?_
                                                    rotate_left
                                                    · intro w'
                                                      go_simp
                                                      with_reducible rfl
                                                    rotate_left
                                                    · simp only [Act.put, List.setIfInBounds_toArray, List.set_cons_zero, List.set_cons_succ, i64_w, i32_w]
                                                      rfl
                                                    refine one_ (i := 12) (N := some 89) zb17_Px26 rfl rfl (one_of HT_.out (by kernel_rfl)) (by decide) (fun K hK => ?_)
                                                    refine value_ (w1 := ?_) (v := ?_) (by rfl) rfl ?_ ?_
                                                    rotate_left 2
                                                    · go_simp
                                                      constructor
                                                      · rfl
                                                      · rfl
                                                    refine hK.out _ _ ⟨(blk_cell (blk_alloc BK269.out _) 0).trans rfl, (blk_cell (blk_alloc BK269.out _) 1).trans rfl, (blk_cell (blk_alloc BK269.out _) 2).trans rfl, (blk_cell (blk_alloc BK269.out _) 3).trans rfl⟩ (fun hHeld => ?_)
                                                    clear hK K
                                                    refine norm_ (a' := ?_) ?_ ?_
                                                    rotate_left
                                                    · show Act.put _ (some 89) _ = _
                                                      simp only [Act.put, List.setIfInBounds_toArray, List.set_cons_zero, List.set_cons_succ, i64_w, i32_w]
                                                      rfl
                                                    refine one_ (i := 13) (N := some 90) zb18_Px26 rfl rfl (one_of HT_.out (by kernel_rfl)) (by decide) (fun K hK => ?_)
                                                    refine Kd.R_append_step (Kd.int .u32) (w0 := w) w.heap.size (by rfl) (.tmp 78) (.tmp 89) 22 23 (.int .u32 0) 4 rfl Try.underlying22 info23 rfl (by decide) (by omega) u270000 x270000_3 (IntKind.u32.wrap (t270)) [.int .u32 (IntKind.u32.wrap (t270))] (fun _ => True) (fun _ => False) rfl rfl ?aP (fun _ hk => hk.elim) ?aF ?aO ?aB ?aS ?aL ?_
                                                    (case aP => exact rfl)
                                                    (case aB => exact (by repeat (first | (with_reducible first | exact HB.out | apply below_alloc | apply pw_below_drewN | apply below_drew1 | refine below_set ?_ GE263.out | refine below_set ?_ GE264.out | refine below_set ?_ GE269.out) | exact HB.out)))
                                                    (case aF => exact (fun _ _ => trivial))
                                                    (case aO => exact (by (with_reducible repeat (first | apply Kd.R_alloc | apply Kd.R_drewN | apply Kd.R_drew)); exact HO_270000.out))
                                                    (case aS => exact (below_size (by repeat (first | (with_reducible first | exact HB.out | apply below_alloc | apply pw_below_drewN | apply below_drew1 | refine below_set ?_ GE263.out | refine below_set ?_ GE264.out | refine below_set ?_ GE269.out) | exact HB.out))))
                                                    (case aL => have := LMc60.out; omega)
                                                    intro v272 w62 ho hb hg hat
                                                    rw [← Ny271.out] at ho
                                                    have n0_ := Aside0.mk (blk_grown (g := gb263) (o := .cells #[.slice none 0 0, .string x264001_1, .int .i64 x264002_1, .int .u32 x264003_1] 25 (0, 0)) (by (with_reducible repeat (first | refine blk_drewN ?_ _ | refine blk_drew ?_ | refine blk_alloc ?_ _)); exact BK263.out) hg (Kd.R_ne HO_270000.out BK263.out (by decide)))
                                                    have n1_ := Aside0.mk (blk_grown (g := gb264) (o := .cells #[.slice none 0 0, .string (⟨#[]⟩ : ByteArray), .int .i64 0, .int .u32 0] 25 (0, 0)) (by (with_reducible repeat (first | refine blk_drewN ?_ _ | refine blk_drew ?_ | refine blk_alloc ?_ _)); exact BK264.out) hg (Kd.R_ne HO_270000.out BK264.out (by decide)))
                                                    have n2_ := Aside0.mk (blk_grown (g := gb269) (o := .cells #[u270000, .string (a0.extract ((ji44) : Int).toNat a0.size), .int .i64 (wrap64 (t268)), .int .u32 (IntKind.u32.wrap (t267))] 25 (0, 0)) (by (with_reducible repeat (first | refine blk_drewN ?_ _ | refine blk_drew ?_ | refine blk_alloc ?_ _)); exact BK269.out) hg (Kd.R_ne HO_270000.out BK269.out (by decide)))
                                                    have n3_ := Aside0.mk (hb)
                                                    have n4_ := Aside0.mk (ho)
                                                    clear BK263
                                                    clear BK264
                                                    clear BK269
                                                    clear HB
                                                    clear HO_270000
                                                    have BK263 := n0_
                                                    have BK264 := n1_
                                                    have BK269 := n2_
                                                    have HB := n3_
                                                    have HO273 := n4_
                                                    clear n0_ n1_ n2_ n3_ n4_
                                                    clear ho hb hg hat
                                                    obtain ⟨Ao63, co63, eo63⟩ := Kd.R_slice HO273.out
                                                    (first | subst eo63 | (injection eo63 with f1_ f2_ f3_; have f4_ := f1_.symm; have f5_ := f3_.symm; clear f1_ f2_ f3_; subst f4_; subst f5_))
                                                    refine hK.out _ _ ⟨(blk_cell BK269.out 0).trans rfl, (blk_cell BK269.out 1).trans rfl, (blk_cell BK269.out 2).trans rfl, (blk_cell BK269.out 3).trans rfl⟩ (fun hHeld => ?_)
                                                    clear hK K
                                                    refine norm_ (a' := ?_) ?_ ?_
                                                    rotate_left
                                                    · show Act.put _ (some 90) _ = _
                                                      simp only [Act.put, List.setIfInBounds_toArray, List.set_cons_zero, List.set_cons_succ, i64_w, i32_w]
                                                      rfl
                                                    refine pure_ (i := 14) (N := some 91) (v := ?_) (a' := ?_) zb11_Px26 rfl rfl (any_of HT_.out (by kernel_rfl)) (fun _ _ _ h => h) (Or.inl ⟨by rfl, ?_⟩) ?_ ?_
                                                    rotate_left
                                                    · intro w'
                                                      go_simp
                                                      with_reducible rfl
                                                    rotate_left
                                                    · simp only [Act.put, List.setIfInBounds_toArray, List.set_cons_zero, List.set_cons_succ, i64_w, i32_w]
                                                      rfl
                                                    refine last_ (i := 15) (N := none) zb22_Px26 rfl rfl (one_of HT_.out (by kernel_rfl)) (by decide) (fun K hK => ?_)
                                                    have hs64 : w62.cell? ⟨gb269, 0, none⟩ = some (u270000) := (blk_cell BK269.out 0).trans rfl
                                                    have hfs64 := blk_frozen BK269.out 0
                                                    have hns64_0 := NB263_269.out
                                                    have hns64_1 := NB264_269.out
                                                    have hms64_0 := NB269_263.out
                                                    have hms64_1 := NB269_264.out
                                                    refine skip_ (w1 := ?_) (by rfl) rfl ?_ ?_
                                                    rotate_left
                                                    · go_simp
                                                      rfl
                                                    refine hK.out _ _ ?_
                                                    clear hK K
                                                    refine done_ (done_of HT_.out (by kernel_rfl)) ?_
                                                    try go_wp2
                                                    go_roundg k3
                                                    case measure => have := HK1.out; have := HJ5.out; have := HK3.out; omega
                                                    case rel => exact ⟨(wrap64 (x9_3 + 1)), (y271), (.slice Ao63 y271.length co63), (by first | rfl | (simp; done) | (simp [*]; done)), H', ⟨by have := HK1.out; have := HJ5.out; have := HK3.out; omega⟩, ⟨by (with_reducible repeat (first | apply Kd.R_alloc | apply Kd.R_drewN | apply Kd.R_drew)); exact Kd.R_mono (Kd.R_far (p := ⟨gb269, 0, none⟩) (Kd.R_types HO273.out BK269.out (by decide)) (fun _ hk => hk.2) (.slice Ao63 y271.length co63)) (fun _ hk => trivial)⟩, ⟨by (with_reducible repeat (first | refine blk_drewN ?_ _ | refine blk_drew ?_ | refine blk_alloc ?_ _)); refine blk_far ?_ NB263_269.out _; (with_reducible repeat (first | refine blk_drewN ?_ _ | refine blk_drew ?_ | refine blk_alloc ?_ _)); exact BK263.out⟩, ⟨by (with_reducible repeat (first | refine blk_drewN ?_ _ | refine blk_drew ?_ | refine blk_alloc ?_ _)); refine blk_far ?_ NB264_269.out _; (with_reducible repeat (first | refine blk_drewN ?_ _ | refine blk_drew ?_ | refine blk_alloc ?_ _)); exact BK264.out⟩, ⟨by (with_reducible repeat (first | refine blk_drewN ?_ _ | refine blk_drew ?_ | refine blk_alloc ?_ _)); refine blk_put (cs := #[u270000, .string (a0.extract ((ji44) : Int).toNat a0.size), .int .i64 (wrap64 (t268)), .int .u32 (IntKind.u32.wrap (t267))]) ?_ 0 _ rfl; (with_reducible repeat (first | refine blk_drewN ?_ _ | refine blk_drew ?_ | refine blk_alloc ?_ _)); exact BK269.out⟩, ⟨by repeat (first | (with_reducible first | exact HB.out | apply below_alloc | apply pw_below_drewN | apply below_drew1 | refine below_set ?_ GE263.out | refine below_set ?_ GE264.out | refine below_set ?_ GE269.out) | exact HB.out)⟩⟩
                                                  · rw [if_neg c60] at H
                                                    exact absurd H (by simp)
                                                · rw [if_neg c58] at H
                                                  exact absurd H (by simp)
                                              · rw [if_neg c57] at H
                                                exact absurd H (by simp)
                                            · rw [if_neg c56] at H
                                              exact absurd H (by simp)
                                          · rw [if_neg c54] at H
                                            have c54b0 : decide (x9_3 < (wrap64 (t265))) = false := decide_eq_false c54
                                            clear c54
                                            replace H := Option.bind_eq_some_iff.mp H
                                            obtain ⟨t274, A650, H⟩ := H
                                            replace H : (if t274 = 0 then (some (x270000_3, (a0.extract ((ji44) : Int).toNat a0.size), (wrap64 (t268)), (IntKind.u32.wrap (t267)), 0)) else (some (([] : List Int), (⟨#[]⟩ : ByteArray), 0, 0, 3))) = some (r1, r2, r3, r4, r5) := H
                                            have A65 := Aside0.mk A650
                                            clear A650
                                            by_cases c66 : t274 = 0
                                            · rw [if_pos c66] at H
                                              have c66b0 : (t274 == 0) = true := beq_iff_eq.mpr c66
                                              have c66b1 : (t274 != 0) = false := bne_eq_false_iff_eq.mpr c66
                                              clear c66
                                              simp only [Option.some.injEq, Prod.mk.injEq] at H
                                              obtain ⟨rfl, rfl, rfl, rfl, rfl⟩ := H
                                              have hnb67 := NB269_263.out
                                              have hnc67 := NB263_269.out
                                              have hnb68 := NB269_264.out
                                              have hnc68 := NB264_269.out
                                              have hcz69_0 : wr.cell? ⟨gb269, 0, none⟩ = some (u270000) := (blk_cell BK269.out 0).trans rfl
                                              have hcz69_1 : wr.cell? ⟨gb269, 1, none⟩ = some (.string (a0.extract ((ji44) : Int).toNat a0.size)) := (blk_cell BK269.out 1).trans rfl
                                              have hcz69_2 : wr.cell? ⟨gb269, 2, none⟩ = some (.int .i64 (wrap64 (t268))) := (blk_cell BK269.out 2).trans rfl
                                              have hcz69_3 : wr.cell? ⟨gb269, 3, none⟩ = some (.int .u32 (IntKind.u32.wrap (t267))) := (blk_cell BK269.out 3).trans rfl
                                              have hfz69_0 := blk_frozen BK269.out 0
                                              have hfz69_1 := blk_frozen BK269.out 1
                                              have hfz69_2 := blk_frozen BK269.out 2
                                              have hfz69_3 := blk_frozen BK269.out 3
                                              obtain ⟨Ao70, co70, eo70⟩ := Kd.R_slice HO_270000.out
                                              subst eo70
                                              go_wp2_with (first | ((with_reducible refine gate_callee (f := 13) rfl ?_); refine goesL_ (some 93) rfl rfl Try.func13 (by kernel_rfl) rfl #[.agg #[.slice Ao70 x270000_3.length co70, .string (a0.extract ((ji44) : Int).toNat a0.size), .int .i64 (wrap64 (t268)), .int .u32 (IntKind.u32.wrap (t267))]] rfl (by (try simp only [List.map_toArray, List.map_cons, List.map_nil]); first | done | (simp only [hji44]; rfl) | rfl | (simp only [List.length_drop, List.length_take]; rfl)) ?_; (with_reducible refine (hibernacleref12_Check.calls k3 _ _ x270000_3 (a0.extract ((ji44) : Int).toNat a0.size) (wrap64 (t268)) (IntKind.u32.wrap (t267)) t274 _ ?side1 ?side2 A65.out).mono ?_); (case side1 => repeat (first | exact (Kd.R_reads' HO_270000.out).2.2 | (with_reducible refine Kd.C_alloc ?_ _) | (with_reducible refine Kd.C_drewN ?_ _) | (with_reducible refine Kd.C_drew ?_))); (case side2 => exact (Kd.R_reads' HO_270000.out).2.1); rintro e w71 ⟨rfl, hb⟩; refine ⟨_, rfl, ?_⟩; have n0_ := Aside0.mk (Kd.R_below (by (with_reducible repeat (first | apply Kd.R_alloc | apply Kd.R_drewN | apply Kd.R_drew)); exact HO_270000.out) hb); have n1_ := Aside0.mk (blk_below (g := gb263) (o := .cells #[.slice none 0 0, .string x264001_1, .int .i64 x264002_1, .int .u32 x264003_1] 25 (0, 0)) (by (with_reducible repeat (first | refine blk_drewN ?_ _ | refine blk_drew ?_ | refine blk_alloc ?_ _)); exact BK263.out) hb); have n2_ := Aside0.mk (blk_below (g := gb264) (o := .cells #[.slice none 0 0, .string (⟨#[]⟩ : ByteArray), .int .i64 0, .int .u32 0] 25 (0, 0)) (by (with_reducible repeat (first | refine blk_drewN ?_ _ | refine blk_drew ?_ | refine blk_alloc ?_ _)); exact BK264.out) hb); have n3_ := Aside0.mk (blk_below (g := gb269) (o := .cells #[.slice Ao70 x270000_3.length co70, .string (a0.extract ((ji44) : Int).toNat a0.size), .int .i64 (wrap64 (t268)), .int .u32 (IntKind.u32.wrap (t267))] 25 (0, 0)) (by (with_reducible repeat (first | refine blk_drewN ?_ _ | refine blk_drew ?_ | refine blk_alloc ?_ _)); exact BK269.out) hb); have n4_ := Aside0.mk (below_step (by repeat (first | (with_reducible first | exact HB.out | apply below_alloc | apply pw_below_drewN | apply below_drew1 | refine below_set ?_ GE263.out | refine below_set ?_ GE264.out | refine below_set ?_ GE269.out) | exact HB.out)) hb); clear HO_270000; clear BK263; clear BK264; clear BK269; clear HB; have HO_270000 := n0_; have BK263 := n1_; have BK264 := n2_; have BK269 := n3_; have HB := n4_; clear n0_ n1_ n2_ n3_ n4_; (try clear hb); (try clear hb2); (try clear hk); (try clear hi); have hcz72_0 : w71.cell? ⟨gb269, 0, none⟩ = some (.slice Ao70 x270000_3.length co70) := (blk_cell BK269.out 0).trans rfl; have hcz72_1 : w71.cell? ⟨gb269, 1, none⟩ = some (.string (a0.extract ((ji44) : Int).toNat a0.size)) := (blk_cell BK269.out 1).trans rfl; have hcz72_2 : w71.cell? ⟨gb269, 2, none⟩ = some (.int .i64 (wrap64 (t268))) := (blk_cell BK269.out 2).trans rfl; have hcz72_3 : w71.cell? ⟨gb269, 3, none⟩ = some (.int .u32 (IntKind.u32.wrap (t267))) := (blk_cell BK269.out 3).trans rfl; have hfz72_0 := blk_frozen BK269.out 0; have hfz72_1 := blk_frozen BK269.out 1; have hfz72_2 := blk_frozen BK269.out 2; have hfz72_3 := blk_frozen BK269.out 3; have hnb73 := NB263_264.out; have hnc73 := NB264_263.out; have hcz74_0 : w71.cell? ⟨gb263, 0, none⟩ = some (.slice none 0 0) := (blk_cell BK263.out 0).trans rfl; have hcz74_1 : w71.cell? ⟨gb263, 1, none⟩ = some (.string x264001_1) := (blk_cell BK263.out 1).trans rfl; have hcz74_2 : w71.cell? ⟨gb263, 2, none⟩ = some (.int .i64 x264002_1) := (blk_cell BK263.out 2).trans rfl; have hcz74_3 : w71.cell? ⟨gb263, 3, none⟩ = some (.int .u32 x264003_1) := (blk_cell BK263.out 3).trans rfl; have hfz74_0 := blk_frozen BK263.out 0; have hfz74_1 := blk_frozen BK263.out 1; have hfz74_2 := blk_frozen BK263.out 2; have hfz74_3 := blk_frozen BK263.out 3))
                                              refine bodyPost_ret (results_ct rfl _ _ gb263 25 #[.slice Ao70 x270000_3.length co70, .string (a0.extract ((ji44) : Int).toNat a0.size), .int .i64 (wrap64 (t268)), .int .u32 (IntKind.u32.wrap (t267))] (0, 0) _ rfl (by (with_reducible repeat (first | refine blk_drewN ?_ _ | refine blk_drew ?_ | refine blk_alloc ?_ _)); refine blk_put (cs := #[.slice Ao70 x270000_3.length co70, .string (a0.extract ((ji44) : Int).toNat a0.size), .int .i64 (wrap64 (t268)), .int .u32 x264003_1]) ?_ 3 _ rfl; (with_reducible repeat (first | refine blk_drewN ?_ _ | refine blk_drew ?_ | refine blk_alloc ?_ _)); refine blk_put (cs := #[.slice Ao70 x270000_3.length co70, .string (a0.extract ((ji44) : Int).toNat a0.size), .int .i64 x264002_1, .int .u32 x264003_1]) ?_ 2 _ rfl; (with_reducible repeat (first | refine blk_drewN ?_ _ | refine blk_drew ?_ | refine blk_alloc ?_ _)); refine blk_put (cs := #[.slice Ao70 x270000_3.length co70, .string x264001_1, .int .i64 x264002_1, .int .u32 x264003_1]) ?_ 1 _ rfl; (with_reducible repeat (first | refine blk_drewN ?_ _ | refine blk_drew ?_ | refine blk_alloc ?_ _)); refine blk_put (cs := #[.slice none 0 0, .string x264001_1, .int .i64 x264002_1, .int .u32 x264003_1]) ?_ 0 _ rfl; (with_reducible repeat (first | refine blk_drewN ?_ _ | refine blk_drew ?_ | refine blk_alloc ?_ _)); exact BK263.out) Try.underlying25 rfl (by kernel_rfl)) rfl ?_
                                              exact ⟨_, by first | rfl | (simp [errW_none, errW_some] <;> rfl) | (simp only [← hji44]; first | rfl | (simp [errW_none, errW_some] <;> rfl)) | (simp [*, errW_none, errW_some] <;> rfl), by (with_reducible repeat (first | apply Kd.R_alloc | apply Kd.R_drewN | apply Kd.R_drew)); exact Kd.R_mono (Kd.R_far (p := ⟨gb263, 3, none⟩) (Kd.R_far (p := ⟨gb263, 2, none⟩) (Kd.R_far (p := ⟨gb263, 1, none⟩) (Kd.R_far (p := ⟨gb263, 0, none⟩) (Kd.R_types HO_270000.out BK263.out (by decide)) (fun _ hk => hk.2) (.slice Ao70 x270000_3.length co70)) (fun _ hk => hk.2) (.string (a0.extract ((ji44) : Int).toNat a0.size))) (fun _ hk => hk.2) (.int .i64 (wrap64 (t268)))) (fun _ hk => hk.2) (.int .u32 (IntKind.u32.wrap (t267)))) (fun _ hk => trivial), by repeat (first | (with_reducible first | exact HB.out | apply below_alloc | apply pw_below_drewN | apply below_drew1 | refine below_set ?_ GE263.out | refine below_set ?_ GE264.out | refine below_set ?_ GE269.out) | exact HB.out)⟩
                                            · rw [if_neg c66] at H
                                              have c66b0 : (t274 == 0) = false := beq_eq_false_iff_ne.mpr c66
                                              have c66b1 : (t274 != 0) = true := bne_iff_ne.mpr c66
                                              simp only [Option.some.injEq, Prod.mk.injEq] at H
                                              obtain ⟨rfl, rfl, rfl, rfl, rfl⟩ := H
                                              have hnb75 := NB269_263.out
                                              have hnc75 := NB263_269.out
                                              have hnb76 := NB269_264.out
                                              have hnc76 := NB264_269.out
                                              have hcz77_0 : wr.cell? ⟨gb269, 0, none⟩ = some (u270000) := (blk_cell BK269.out 0).trans rfl
                                              have hcz77_1 : wr.cell? ⟨gb269, 1, none⟩ = some (.string (a0.extract ((ji44) : Int).toNat a0.size)) := (blk_cell BK269.out 1).trans rfl
                                              have hcz77_2 : wr.cell? ⟨gb269, 2, none⟩ = some (.int .i64 (wrap64 (t268))) := (blk_cell BK269.out 2).trans rfl
                                              have hcz77_3 : wr.cell? ⟨gb269, 3, none⟩ = some (.int .u32 (IntKind.u32.wrap (t267))) := (blk_cell BK269.out 3).trans rfl
                                              have hfz77_0 := blk_frozen BK269.out 0
                                              have hfz77_1 := blk_frozen BK269.out 1
                                              have hfz77_2 := blk_frozen BK269.out 2
                                              have hfz77_3 := blk_frozen BK269.out 3
                                              obtain ⟨Ao78, co78, eo78⟩ := Kd.R_slice HO_270000.out
                                              subst eo78
                                              go_wp2_with (first | ((with_reducible refine gate_callee (f := 13) rfl ?_); refine goesL_ (some 93) rfl rfl Try.func13 (by kernel_rfl) rfl #[.agg #[.slice Ao78 x270000_3.length co78, .string (a0.extract ((ji44) : Int).toNat a0.size), .int .i64 (wrap64 (t268)), .int .u32 (IntKind.u32.wrap (t267))]] rfl (by (try simp only [List.map_toArray, List.map_cons, List.map_nil]); first | done | (simp only [hji44]; rfl) | rfl | (simp only [List.length_drop, List.length_take]; rfl)) ?_; (with_reducible refine (hibernacleref12_Check.calls k3 _ _ x270000_3 (a0.extract ((ji44) : Int).toNat a0.size) (wrap64 (t268)) (IntKind.u32.wrap (t267)) t274 _ ?side1 ?side2 A65.out).mono ?_); (case side1 => repeat (first | exact (Kd.R_reads' HO_270000.out).2.2 | (with_reducible refine Kd.C_alloc ?_ _) | (with_reducible refine Kd.C_drewN ?_ _) | (with_reducible refine Kd.C_drew ?_))); (case side2 => exact (Kd.R_reads' HO_270000.out).2.1); rintro e w79 ⟨rfl, hb⟩; refine ⟨_, rfl, ?_⟩; have n0_ := Aside0.mk (Kd.R_below (by (with_reducible repeat (first | apply Kd.R_alloc | apply Kd.R_drewN | apply Kd.R_drew)); exact HO_270000.out) hb); have n1_ := Aside0.mk (blk_below (g := gb263) (o := .cells #[.slice none 0 0, .string x264001_1, .int .i64 x264002_1, .int .u32 x264003_1] 25 (0, 0)) (by (with_reducible repeat (first | refine blk_drewN ?_ _ | refine blk_drew ?_ | refine blk_alloc ?_ _)); exact BK263.out) hb); have n2_ := Aside0.mk (blk_below (g := gb264) (o := .cells #[.slice none 0 0, .string (⟨#[]⟩ : ByteArray), .int .i64 0, .int .u32 0] 25 (0, 0)) (by (with_reducible repeat (first | refine blk_drewN ?_ _ | refine blk_drew ?_ | refine blk_alloc ?_ _)); exact BK264.out) hb); have n3_ := Aside0.mk (blk_below (g := gb269) (o := .cells #[.slice Ao78 x270000_3.length co78, .string (a0.extract ((ji44) : Int).toNat a0.size), .int .i64 (wrap64 (t268)), .int .u32 (IntKind.u32.wrap (t267))] 25 (0, 0)) (by (with_reducible repeat (first | refine blk_drewN ?_ _ | refine blk_drew ?_ | refine blk_alloc ?_ _)); exact BK269.out) hb); have n4_ := Aside0.mk (below_step (by repeat (first | (with_reducible first | exact HB.out | apply below_alloc | apply pw_below_drewN | apply below_drew1 | refine below_set ?_ GE263.out | refine below_set ?_ GE264.out | refine below_set ?_ GE269.out) | exact HB.out)) hb); clear HO_270000; clear BK263; clear BK264; clear BK269; clear HB; have HO_270000 := n0_; have BK263 := n1_; have BK264 := n2_; have BK269 := n3_; have HB := n4_; clear n0_ n1_ n2_ n3_ n4_; (try clear hb); (try clear hb2); (try clear hk); (try clear hi); have hnb80 := NB264_263.out; have hnc80 := NB263_264.out; have hcz81_0 : w79.cell? ⟨gb264, 0, none⟩ = some (.slice none 0 0) := (blk_cell BK264.out 0).trans rfl; have hcz81_1 : w79.cell? ⟨gb264, 1, none⟩ = some (.string (⟨#[]⟩ : ByteArray)) := (blk_cell BK264.out 1).trans rfl; have hcz81_2 : w79.cell? ⟨gb264, 2, none⟩ = some (.int .i64 0) := (blk_cell BK264.out 2).trans rfl; have hcz81_3 : w79.cell? ⟨gb264, 3, none⟩ = some (.int .u32 0) := (blk_cell BK264.out 3).trans rfl; have hfz81_0 := blk_frozen BK264.out 0; have hfz81_1 := blk_frozen BK264.out 1; have hfz81_2 := blk_frozen BK264.out 2; have hfz81_3 := blk_frozen BK264.out 3; have hcz82_0 : w79.cell? ⟨gb263, 0, none⟩ = some (.slice none 0 0) := (blk_cell BK263.out 0).trans rfl; have hcz82_1 : w79.cell? ⟨gb263, 1, none⟩ = some (.string x264001_1) := (blk_cell BK263.out 1).trans rfl; have hcz82_2 : w79.cell? ⟨gb263, 2, none⟩ = some (.int .i64 x264002_1) := (blk_cell BK263.out 2).trans rfl; have hcz82_3 : w79.cell? ⟨gb263, 3, none⟩ = some (.int .u32 x264003_1) := (blk_cell BK263.out 3).trans rfl; have hfz82_0 := blk_frozen BK263.out 0; have hfz82_1 := blk_frozen BK263.out 1; have hfz82_2 := blk_frozen BK263.out 2; have hfz82_3 := blk_frozen BK263.out 3))
                                              refine bodyPost_ret (results_ct rfl _ _ gb263 25 #[.slice none 0 0, .string (⟨#[]⟩ : ByteArray), .int .i64 0, .int .u32 0] (0, 0) _ rfl (by (with_reducible repeat (first | refine blk_drewN ?_ _ | refine blk_drew ?_ | refine blk_alloc ?_ _)); refine blk_put (cs := #[.slice none 0 0, .string (⟨#[]⟩ : ByteArray), .int .i64 0, .int .u32 x264003_1]) ?_ 3 _ rfl; (with_reducible repeat (first | refine blk_drewN ?_ _ | refine blk_drew ?_ | refine blk_alloc ?_ _)); refine blk_put (cs := #[.slice none 0 0, .string (⟨#[]⟩ : ByteArray), .int .i64 x264002_1, .int .u32 x264003_1]) ?_ 2 _ rfl; (with_reducible repeat (first | refine blk_drewN ?_ _ | refine blk_drew ?_ | refine blk_alloc ?_ _)); refine blk_put (cs := #[.slice none 0 0, .string x264001_1, .int .i64 x264002_1, .int .u32 x264003_1]) ?_ 1 _ rfl; (with_reducible repeat (first | refine blk_drewN ?_ _ | refine blk_drew ?_ | refine blk_alloc ?_ _)); refine blk_put (cs := #[.slice none 0 0, .string x264001_1, .int .i64 x264002_1, .int .u32 x264003_1]) ?_ 0 _ rfl; (with_reducible repeat (first | refine blk_drewN ?_ _ | refine blk_drew ?_ | refine blk_alloc ?_ _)); exact BK263.out) Try.underlying25 rfl (by kernel_rfl)) rfl ?_
                                              exact ⟨_, by first | rfl | (simp [errW_none, errW_some] <;> rfl) | (simp only [← hji44]; first | rfl | (simp [errW_none, errW_some] <;> rfl)) | (simp [*, errW_none, errW_some] <;> rfl), by first | exact Kd.R_nil _ _ _ _ _ | exact Kd.N_nil _ _ _ _ _ | exact Kd.V_nil _ _ _ _ _ | exact Kd.Q_nil _ _ _ _ _ | exact Kd.S_nil _ _ _ _ _, by repeat (first | (with_reducible first | exact HB.out | apply below_alloc | apply pw_below_drewN | apply below_drew1 | refine below_set ?_ GE263.out | refine below_set ?_ GE264.out | refine below_set ?_ GE269.out) | exact HB.out)⟩
                                    · rw [if_neg c46] at H
                                      exact absurd H (by simp)
                                  · rw [if_neg c45] at H
                                    exact absurd H (by simp)
                                · rw [if_neg c42] at H
                                  exact absurd H (by simp)
                              · rw [if_neg c41] at H
                                exact absurd H (by simp)
                            · rw [if_neg c39] at H
                              exact absurd H (by simp)
                          · rw [if_neg c38] at H
                            exact absurd H (by simp)
                    · rw [if_neg c28] at H
                      exact absurd H (by simp)
                  · rw [if_neg c27] at H
                    exact absurd H (by simp)
                · rw [if_neg c25] at H
                  exact absurd H (by simp)
              · rw [if_neg c24] at H
                exact absurd H (by simp)
end
end Go.Proofs.Ytgjhabeoaejcdaa.P
end
