-- Laid by wip/tools/gprint.py (a changed run of the kit's print) for this claim; not trusted: Lean checks it.
import Derived.Test.YtgjhabeoaejcdaaPx0
import Derived.Test.YtgjhabeoaejcdaaPx3
import Derived.Test.YtgjhabeoaejcdaaPx7
import Derived.Test.YtgjhabeoaejcdaaPx10
import Derived.Test.YtgjhabeoaejcdaaPx11
import Derived.Test.YtgjhabeoaejcdaaPx18
namespace Go.Proofs.Ytgjhabeoaejcdaa.P
open Go.RowKit Go.Proofs.YtgjhabeoaejcdaaW.PrintWords Go.Proofs.YtgjhabeoaejcdaaW.PrintLast Go.Proofs.YtgjhabeoaejcdaaW.PrintMore
attribute [local go_sem] max2_int min2_int max_two min_two max_three min_three max_four min_four   -- for this text's walks alone
set_option linter.unusedVariables false
set_option linter.unusedSimpArgs false

/-! ### hibernaclelaw12_ExePages: function 4 -/
mutual
def hibernaclelaw12_ExePages.j0 : Nat → Bool → List Int → ByteArray → Int → Int → Option (Bool)
  | 0, _, _, _, _, _ => none
  | k + 1, x17, x200000, x200001, x200002, x200003 => if x17 = true then ((hibernaclelaw12_awake.f k).bind fun t202 => (some t202)) else ((exe_Lay.f k x200000 x200001 x200002 x200003).bind fun bt203 => (if bt203.2 = 0 then (hibernaclelaw12_ExePages.l0 k bt203.1 (⟨#[]⟩ : ByteArray) (⟨#[]⟩ : ByteArray) 0 x200000 x200001 x200002 x200003) else (some false)))
def hibernaclelaw12_ExePages.l0 : Nat → List (S33) → ByteArray → ByteArray → Int → List Int → ByteArray → Int → Int → Option (Bool)
  | 0, _, _, _, _, _, _, _, _ => none
  | k + 1, x3, x5, x6, x7, x200000, x200001, x200002, x200003 => if x7 < (x3.length : Int) then (if 0 ≤ x7 then (if (((rd_T33 x3 x7).f1).size : Int) = 128 then (if x7 > 0 then (if 0 ≤ (wrap64 (x7 - 1)) then (if (wrap64 (x7 - 1)) < (x3.length : Int) then (hibernaclelaw12_ExePages.j2 k x3 x5 x6 x7 (decide (((rd_T33 x3 x7).f0) ≤ ((rd_T33 x3 (wrap64 (x7 - 1))).f0))) x200000 x200001 x200002 x200003) else (none)) else (none)) else (hibernaclelaw12_ExePages.j2 k x3 x5 x6 x7 false x200000 x200001 x200002 x200003)) else (hibernaclelaw12_ExePages.j2 k x3 x5 x6 x7 true x200000 x200001 x200002 x200003)) else (none)) else (if (x5.size : Int) < (wrap64 (4 * (x200000.length : Int))) then (hibernaclelaw12_ExePages.j3 k x5 x6 true x200000 x200001 x200002 x200003) else (if (x5.size : Int) ≥ (wrap64 ((wrap64 (4 * (x200000.length : Int))) + 128)) then (hibernaclelaw12_ExePages.j3 k x5 x6 true x200000 x200001 x200002 x200003) else (hibernaclelaw12_ExePages.j3 k x5 x6 (decide ((x6.size : Int) < (wrap64 ((wrap64 ((x200001.size : Int) + x200002)) + 128)))) x200000 x200001 x200002 x200003)))
def hibernaclelaw12_ExePages.j2 : Nat → List (S33) → ByteArray → ByteArray → Int → Bool → List Int → ByteArray → Int → Int → Option (Bool)
  | 0, _, _, _, _, _, _, _, _, _ => none
  | k + 1, x3, x5, x6, x7, x56, x200000, x200001, x200002, x200003 => if x56 = true then (some false) else (if 0 ≤ x7 then (if x7 < (x3.length : Int) then (if (rd_T33 x3 x7).f2 = true then (if x6.size + ((rd_T33 x3 x7).f1).size ≤ 9223372036854775807 then (hibernaclelaw12_ExePages.l0 k x3 x5 (x6 ++ ((rd_T33 x3 x7).f1)) (wrap64 (x7 + 1)) x200000 x200001 x200002 x200003) else (none)) else (if x5.size + ((rd_T33 x3 x7).f1).size ≤ 9223372036854775807 then (hibernaclelaw12_ExePages.l0 k x3 (x5 ++ ((rd_T33 x3 x7).f1)) x6 (wrap64 (x7 + 1)) x200000 x200001 x200002 x200003) else (none))) else (none)) else (none))
def hibernaclelaw12_ExePages.j3 : Nat → ByteArray → ByteArray → Bool → List Int → ByteArray → Int → Int → Option (Bool)
  | 0, _, _, _, _, _, _, _ => none
  | k + 1, x5, x6, x104, x200000, x200001, x200002, x200003 => if x104 = true then (some false) else (hibernaclelaw12_ExePages.l1 k x5 x6 0 x200000 x200001 x200002 x200003)
def hibernaclelaw12_ExePages.l1 : Nat → ByteArray → ByteArray → Int → List Int → ByteArray → Int → Int → Option (Bool)
  | 0, _, _, _, _, _, _, _ => none
  | k + 1, x5, x6, x8, x200000, x200001, x200002, x200003 => if x8 < (x200000.length : Int) then (if 0 ≤ (wrap64 (4 * x8)) then (if (wrap64 (4 * x8)) ≤ (wrap64 ((wrap64 (4 * x8)) + 4)) then (if (wrap64 ((wrap64 (4 * x8)) + 4)) ≤ (x5.size : Int) then ((num_Get.f k (x5.extract ((wrap64 (4 * x8)) : Int).toNat ((wrap64 ((wrap64 (4 * x8)) + 4)) : Int).toNat)).bind fun t213 => (if 0 ≤ x8 then (if t213 = (IntKind.u64.wrap (rd x200000 x8)) then (hibernaclelaw12_ExePages.l1 k x5 x6 (wrap64 (x8 + 1)) x200000 x200001 x200002 x200003) else (some false)) else (none))) else (none)) else (none)) else (none)) else (if 0 ≤ (x200001.size : Int) then (if (x200001.size : Int) ≤ (x6.size : Int) then (if (x6.extract 0 ((x200001.size : Int) : Int).toNat).toList = x200001.toList then (if 0 ≤ (wrap64 (4 * (x200000.length : Int))) then (if (wrap64 (4 * (x200000.length : Int))) ≤ (x5.size : Int) then (if (x5.extract ((wrap64 (4 * (x200000.length : Int))) : Int).toNat x5.size).size + (x6.extract ((x200001.size : Int) : Int).toNat x6.size).size ≤ 9223372036854775807 then (hibernaclelaw12_ExePages.l2 k ((x5.extract ((wrap64 (4 * (x200000.length : Int))) : Int).toNat x5.size) ++ (x6.extract ((x200001.size : Int) : Int).toNat x6.size)) 0) else (none)) else (none)) else (none)) else (some false)) else (none)) else (none))
def hibernaclelaw12_ExePages.l2 : Nat → ByteArray → Int → Option (Bool)
  | 0, _, _ => none
  | k + 1, x9, x10 => if x10 < (x9.size : Int) then (if 0 ≤ x10 then (if (bt x9 x10) = 0 then (hibernaclelaw12_ExePages.l2 k x9 (wrap64 (x10 + 1))) else (some false)) else (none)) else ((hibernaclelaw12_awake.f k).bind fun t215 => (some t215))
end
def hibernaclelaw12_ExePages.f (k : Nat) (l0_0 : List Int) (a0_1 : ByteArray) (a0_2 : Int) (a0_3 : Int) : Option (Bool) := (hibernaclelaw12_great.f l0_0 a0_1 a0_2 a0_3).bind fun t200 => (if t200 = true then (hibernaclelaw12_ExePages.j0 k true l0_0 a0_1 a0_2 a0_3) else ((hibernacleref12_Check.f k l0_0 a0_1 a0_2 a0_3).bind fun t201 => (hibernaclelaw12_ExePages.j0 k (t201 != 0) l0_0 a0_1 a0_2 a0_3)))
theorem hibernaclelaw12_ExePages.mono_l : ∀ k, (∀ y0 y1 y2 y3 y4, LeO (hibernaclelaw12_ExePages.j0 k y0 y1 y2 y3 y4) (hibernaclelaw12_ExePages.j0 (k + 1) y0 y1 y2 y3 y4)) ∧ (∀ y0 y1 y2 y3 y4 y5 y6 y7, LeO (hibernaclelaw12_ExePages.l0 k y0 y1 y2 y3 y4 y5 y6 y7) (hibernaclelaw12_ExePages.l0 (k + 1) y0 y1 y2 y3 y4 y5 y6 y7)) ∧ (∀ y0 y1 y2 y3 y4 y5 y6 y7 y8, LeO (hibernaclelaw12_ExePages.j2 k y0 y1 y2 y3 y4 y5 y6 y7 y8) (hibernaclelaw12_ExePages.j2 (k + 1) y0 y1 y2 y3 y4 y5 y6 y7 y8)) ∧ (∀ y0 y1 y2 y3 y4 y5 y6, LeO (hibernaclelaw12_ExePages.j3 k y0 y1 y2 y3 y4 y5 y6) (hibernaclelaw12_ExePages.j3 (k + 1) y0 y1 y2 y3 y4 y5 y6)) ∧ (∀ y0 y1 y2 y3 y4 y5 y6, LeO (hibernaclelaw12_ExePages.l1 k y0 y1 y2 y3 y4 y5 y6) (hibernaclelaw12_ExePages.l1 (k + 1) y0 y1 y2 y3 y4 y5 y6)) ∧ (∀ y0 y1, LeO (hibernaclelaw12_ExePages.l2 k y0 y1) (hibernaclelaw12_ExePages.l2 (k + 1) y0 y1))
  | 0 => ⟨fun _ _ _ _ _ r h => by simp [hibernaclelaw12_ExePages.j0] at h, fun _ _ _ _ _ _ _ _ r h => by simp [hibernaclelaw12_ExePages.l0] at h, fun _ _ _ _ _ _ _ _ _ r h => by simp [hibernaclelaw12_ExePages.j2] at h, fun _ _ _ _ _ _ _ r h => by simp [hibernaclelaw12_ExePages.j3] at h, fun _ _ _ _ _ _ _ r h => by simp [hibernaclelaw12_ExePages.l1] at h, fun _ _ r h => by simp [hibernaclelaw12_ExePages.l2] at h⟩
  | k + 1 => by
    obtain ⟨ih0, ih1, ih2, ih3, ih4, ih5⟩ := hibernaclelaw12_ExePages.mono_l k
    refine ⟨?_, ?_, ?_, ?_, ?_, ?_⟩
    · intro y0 y1 y2 y3 y4
      unfold hibernaclelaw12_ExePages.j0
      repeat' first
      | (with_reducible exact ih0 _ _ _ _ _)
      | (with_reducible exact ih1 _ _ _ _ _ _ _ _)
      | (with_reducible exact ih2 _ _ _ _ _ _ _ _ _)
      | (with_reducible exact ih3 _ _ _ _ _ _ _)
      | (with_reducible exact ih4 _ _ _ _ _ _ _)
      | (with_reducible exact ih5 _ _)
      | (with_reducible exact exe_Lay.mono _ _ _ _ _)
      | (with_reducible exact hibernaclelaw12_awake.mono _)
      | (with_reducible exact hibernacleref12_Check.mono _ _ _ _ _)
      | (with_reducible exact num_Get.mono _ _)
      | (with_reducible exact LeO.refl _)
      | (with_reducible exact LeO.none _)
      | (with_reducible refine LeO.ite ?_ ?_)
      | (with_reducible refine LeO.bind ?_ (fun _ => ?_))
      | exact ih0 _ _ _ _ _
      | exact ih1 _ _ _ _ _ _ _ _
      | exact ih2 _ _ _ _ _ _ _ _ _
      | exact ih3 _ _ _ _ _ _ _
      | exact ih4 _ _ _ _ _ _ _
      | exact ih5 _ _
      | exact exe_Lay.mono _ _ _ _ _
      | exact hibernaclelaw12_awake.mono _
      | exact hibernacleref12_Check.mono _ _ _ _ _
      | exact num_Get.mono _ _
      | exact LeO.none _
      | refine LeO.ite ?_ ?_
      | refine LeO.bind ?_ (fun _ => ?_)
    · intro y0 y1 y2 y3 y4 y5 y6 y7
      unfold hibernaclelaw12_ExePages.l0
      repeat' first
      | (with_reducible exact ih0 _ _ _ _ _)
      | (with_reducible exact ih1 _ _ _ _ _ _ _ _)
      | (with_reducible exact ih2 _ _ _ _ _ _ _ _ _)
      | (with_reducible exact ih3 _ _ _ _ _ _ _)
      | (with_reducible exact ih4 _ _ _ _ _ _ _)
      | (with_reducible exact ih5 _ _)
      | (with_reducible exact exe_Lay.mono _ _ _ _ _)
      | (with_reducible exact hibernaclelaw12_awake.mono _)
      | (with_reducible exact hibernacleref12_Check.mono _ _ _ _ _)
      | (with_reducible exact num_Get.mono _ _)
      | (with_reducible exact LeO.refl _)
      | (with_reducible exact LeO.none _)
      | (with_reducible refine LeO.ite ?_ ?_)
      | (with_reducible refine LeO.bind ?_ (fun _ => ?_))
      | exact ih0 _ _ _ _ _
      | exact ih1 _ _ _ _ _ _ _ _
      | exact ih2 _ _ _ _ _ _ _ _ _
      | exact ih3 _ _ _ _ _ _ _
      | exact ih4 _ _ _ _ _ _ _
      | exact ih5 _ _
      | exact exe_Lay.mono _ _ _ _ _
      | exact hibernaclelaw12_awake.mono _
      | exact hibernacleref12_Check.mono _ _ _ _ _
      | exact num_Get.mono _ _
      | exact LeO.none _
      | refine LeO.ite ?_ ?_
      | refine LeO.bind ?_ (fun _ => ?_)
    · intro y0 y1 y2 y3 y4 y5 y6 y7 y8
      unfold hibernaclelaw12_ExePages.j2
      repeat' first
      | (with_reducible exact ih0 _ _ _ _ _)
      | (with_reducible exact ih1 _ _ _ _ _ _ _ _)
      | (with_reducible exact ih2 _ _ _ _ _ _ _ _ _)
      | (with_reducible exact ih3 _ _ _ _ _ _ _)
      | (with_reducible exact ih4 _ _ _ _ _ _ _)
      | (with_reducible exact ih5 _ _)
      | (with_reducible exact exe_Lay.mono _ _ _ _ _)
      | (with_reducible exact hibernaclelaw12_awake.mono _)
      | (with_reducible exact hibernacleref12_Check.mono _ _ _ _ _)
      | (with_reducible exact num_Get.mono _ _)
      | (with_reducible exact LeO.refl _)
      | (with_reducible exact LeO.none _)
      | (with_reducible refine LeO.ite ?_ ?_)
      | (with_reducible refine LeO.bind ?_ (fun _ => ?_))
      | exact ih0 _ _ _ _ _
      | exact ih1 _ _ _ _ _ _ _ _
      | exact ih2 _ _ _ _ _ _ _ _ _
      | exact ih3 _ _ _ _ _ _ _
      | exact ih4 _ _ _ _ _ _ _
      | exact ih5 _ _
      | exact exe_Lay.mono _ _ _ _ _
      | exact hibernaclelaw12_awake.mono _
      | exact hibernacleref12_Check.mono _ _ _ _ _
      | exact num_Get.mono _ _
      | exact LeO.none _
      | refine LeO.ite ?_ ?_
      | refine LeO.bind ?_ (fun _ => ?_)
    · intro y0 y1 y2 y3 y4 y5 y6
      unfold hibernaclelaw12_ExePages.j3
      repeat' first
      | (with_reducible exact ih0 _ _ _ _ _)
      | (with_reducible exact ih1 _ _ _ _ _ _ _ _)
      | (with_reducible exact ih2 _ _ _ _ _ _ _ _ _)
      | (with_reducible exact ih3 _ _ _ _ _ _ _)
      | (with_reducible exact ih4 _ _ _ _ _ _ _)
      | (with_reducible exact ih5 _ _)
      | (with_reducible exact exe_Lay.mono _ _ _ _ _)
      | (with_reducible exact hibernaclelaw12_awake.mono _)
      | (with_reducible exact hibernacleref12_Check.mono _ _ _ _ _)
      | (with_reducible exact num_Get.mono _ _)
      | (with_reducible exact LeO.refl _)
      | (with_reducible exact LeO.none _)
      | (with_reducible refine LeO.ite ?_ ?_)
      | (with_reducible refine LeO.bind ?_ (fun _ => ?_))
      | exact ih0 _ _ _ _ _
      | exact ih1 _ _ _ _ _ _ _ _
      | exact ih2 _ _ _ _ _ _ _ _ _
      | exact ih3 _ _ _ _ _ _ _
      | exact ih4 _ _ _ _ _ _ _
      | exact ih5 _ _
      | exact exe_Lay.mono _ _ _ _ _
      | exact hibernaclelaw12_awake.mono _
      | exact hibernacleref12_Check.mono _ _ _ _ _
      | exact num_Get.mono _ _
      | exact LeO.none _
      | refine LeO.ite ?_ ?_
      | refine LeO.bind ?_ (fun _ => ?_)
    · intro y0 y1 y2 y3 y4 y5 y6
      unfold hibernaclelaw12_ExePages.l1
      repeat' first
      | (with_reducible exact ih0 _ _ _ _ _)
      | (with_reducible exact ih1 _ _ _ _ _ _ _ _)
      | (with_reducible exact ih2 _ _ _ _ _ _ _ _ _)
      | (with_reducible exact ih3 _ _ _ _ _ _ _)
      | (with_reducible exact ih4 _ _ _ _ _ _ _)
      | (with_reducible exact ih5 _ _)
      | (with_reducible exact exe_Lay.mono _ _ _ _ _)
      | (with_reducible exact hibernaclelaw12_awake.mono _)
      | (with_reducible exact hibernacleref12_Check.mono _ _ _ _ _)
      | (with_reducible exact num_Get.mono _ _)
      | (with_reducible exact LeO.refl _)
      | (with_reducible exact LeO.none _)
      | (with_reducible refine LeO.ite ?_ ?_)
      | (with_reducible refine LeO.bind ?_ (fun _ => ?_))
      | exact ih0 _ _ _ _ _
      | exact ih1 _ _ _ _ _ _ _ _
      | exact ih2 _ _ _ _ _ _ _ _ _
      | exact ih3 _ _ _ _ _ _ _
      | exact ih4 _ _ _ _ _ _ _
      | exact ih5 _ _
      | exact exe_Lay.mono _ _ _ _ _
      | exact hibernaclelaw12_awake.mono _
      | exact hibernacleref12_Check.mono _ _ _ _ _
      | exact num_Get.mono _ _
      | exact LeO.none _
      | refine LeO.ite ?_ ?_
      | refine LeO.bind ?_ (fun _ => ?_)
    · intro y0 y1
      unfold hibernaclelaw12_ExePages.l2
      repeat' first
      | (with_reducible exact ih0 _ _ _ _ _)
      | (with_reducible exact ih1 _ _ _ _ _ _ _ _)
      | (with_reducible exact ih2 _ _ _ _ _ _ _ _ _)
      | (with_reducible exact ih3 _ _ _ _ _ _ _)
      | (with_reducible exact ih4 _ _ _ _ _ _ _)
      | (with_reducible exact ih5 _ _)
      | (with_reducible exact exe_Lay.mono _ _ _ _ _)
      | (with_reducible exact hibernaclelaw12_awake.mono _)
      | (with_reducible exact hibernacleref12_Check.mono _ _ _ _ _)
      | (with_reducible exact num_Get.mono _ _)
      | (with_reducible exact LeO.refl _)
      | (with_reducible exact LeO.none _)
      | (with_reducible refine LeO.ite ?_ ?_)
      | (with_reducible refine LeO.bind ?_ (fun _ => ?_))
      | exact ih0 _ _ _ _ _
      | exact ih1 _ _ _ _ _ _ _ _
      | exact ih2 _ _ _ _ _ _ _ _ _
      | exact ih3 _ _ _ _ _ _ _
      | exact ih4 _ _ _ _ _ _ _
      | exact ih5 _ _
      | exact exe_Lay.mono _ _ _ _ _
      | exact hibernaclelaw12_awake.mono _
      | exact hibernacleref12_Check.mono _ _ _ _ _
      | exact num_Get.mono _ _
      | exact LeO.none _
      | refine LeO.ite ?_ ?_
      | refine LeO.bind ?_ (fun _ => ?_)
theorem hibernaclelaw12_ExePages.mono : ∀ a0 a1 a2 a3 k, LeO (hibernaclelaw12_ExePages.f k a0 a1 a2 a3) (hibernaclelaw12_ExePages.f (k + 1) a0 a1 a2 a3) := by
  intro a0 a1 a2 a3 k
  obtain ⟨ih0, ih1, ih2, ih3, ih4, ih5⟩ := hibernaclelaw12_ExePages.mono_l k
  unfold hibernaclelaw12_ExePages.f
  repeat' first
      | (with_reducible exact ih0 _ _ _ _ _)
      | (with_reducible exact ih1 _ _ _ _ _ _ _ _)
      | (with_reducible exact ih2 _ _ _ _ _ _ _ _ _)
      | (with_reducible exact ih3 _ _ _ _ _ _ _)
      | (with_reducible exact ih4 _ _ _ _ _ _ _)
      | (with_reducible exact ih5 _ _)
      | (with_reducible exact exe_Lay.mono _ _ _ _ _)
      | (with_reducible exact hibernaclelaw12_awake.mono _)
      | (with_reducible exact hibernacleref12_Check.mono _ _ _ _ _)
      | (with_reducible exact num_Get.mono _ _)
      | (with_reducible exact LeO.refl _)
      | (with_reducible exact LeO.none _)
      | (with_reducible refine LeO.ite ?_ ?_)
      | (with_reducible refine LeO.bind ?_ (fun _ => ?_))
      | exact ih0 _ _ _ _ _
      | exact ih1 _ _ _ _ _ _ _ _
      | exact ih2 _ _ _ _ _ _ _ _ _
      | exact ih3 _ _ _ _ _ _ _
      | exact ih4 _ _ _ _ _ _ _
      | exact ih5 _ _
      | exact exe_Lay.mono _ _ _ _ _
      | exact hibernaclelaw12_awake.mono _
      | exact hibernacleref12_Check.mono _ _ _ _ _
      | exact num_Get.mono _ _
      | exact LeO.none _
      | refine LeO.ite ?_ ?_
      | refine LeO.bind ?_ (fun _ => ?_)
def hibernaclelaw12_ExePages.T10 : Bool × List (List Nat × List Nat) := (true, [([], []), ([], []), ([0, 1], [0, 1]), ([2], [2]), ([3], [3]), ([4], [4]), ([5], [5]), ([6], [6]), ([7], [7]), ([8, 7], [7, 8]), ([9, 7, 7], [7, 9]), ([10], [10]), ([10], [10]), ([11, 12, 10], [10, 11, 12]), ([13, 10], [10, 13]), ([14, 10], [10, 14]), ([10], [10]), ([10], [10]), ([17, 10], [10, 17]), ([16, 18, 10], [10, 16, 18]), ([19, 10], [10, 19]), ([20, 10], [10, 20]), ([15, 21, 10], [10, 15, 21]), ([10, 22, 7], [7, 10, 22]), ([7, 23], [7, 23])])
def hibernaclelaw12_ExePages.B10 : List Nat := [0, 0, 3, 7, 15, 31, 63, 127, 255, 511, 1023, 2047, 2047, 8191, 16383, 32767, 2047, 2047, 133119, 460799, 985087, 2033663, 4194303, 8388607, 16777215]
theorem hibernaclelaw12_ExePages.tab10 : rtab .any (opsOf Try.f4 10) = hibernaclelaw12_ExePages.T10 := by kernel_rfl
theorem hibernaclelaw12_ExePages.bits10 : waitsOk hibernaclelaw12_ExePages.T10.2 hibernaclelaw12_ExePages.B10 = true := by kernel_rfl
def hibernaclelaw12_ExePages.T20 : Bool × List (List Nat × List Nat) := (true, [([], []), ([], []), ([1], [1]), ([], []), ([3], [3]), ([4], [4]), ([0, 2, 5], [0, 2, 5]), ([6], [6]), ([], []), ([8], [8]), ([], []), ([9, 10], [9, 10]), ([11], [11]), ([12], [12]), ([7, 13], [7, 13])])
def hibernaclelaw12_ExePages.B20 : List Nat := [0, 0, 2, 0, 8, 24, 63, 127, 0, 256, 0, 1792, 3840, 7936, 16383]
theorem hibernaclelaw12_ExePages.tab20 : rtab .any (opsOf Try.f4 20) = hibernaclelaw12_ExePages.T20 := by kernel_rfl
theorem hibernaclelaw12_ExePages.bits20 : waitsOk hibernaclelaw12_ExePages.T20.2 hibernaclelaw12_ExePages.B20 = true := by kernel_rfl
def hibernaclelaw12_ExePages.T22 : Bool × List (List Nat × List Nat) := (true, [([], []), ([], []), ([1], [1]), ([2], [2]), ([0, 3], [0, 3]), ([], []), ([5], [5]), ([4, 6], [4, 6])])
def hibernaclelaw12_ExePages.B22 : List Nat := [0, 0, 2, 6, 15, 0, 32, 127]
theorem hibernaclelaw12_ExePages.tab22 : rtab .any (opsOf Try.f4 22) = hibernaclelaw12_ExePages.T22 := by kernel_rfl
theorem hibernaclelaw12_ExePages.bits22 : waitsOk hibernaclelaw12_ExePages.T22.2 hibernaclelaw12_ExePages.B22 = true := by kernel_rfl
def hibernaclelaw12_ExePages.T24 : Bool × List (List Nat × List Nat) := (true, [([], []), ([], []), ([1], [1]), ([2], [2]), ([3], [3]), ([0, 4], [0, 4]), ([], []), ([], []), ([7], [7]), ([8], [8]), ([6, 9], [6, 9]), ([5, 10], [5, 10]), ([11, 0, 1, 2, 3, 4, 5, 6, 7, 8, 9, 10, 11], [11])])
def hibernaclelaw12_ExePages.B24 : List Nat := [0, 0, 2, 6, 14, 31, 0, 0, 128, 384, 960, 2047, 4095]
theorem hibernaclelaw12_ExePages.tab24 : rtab .any (opsOf Try.f4 24) = hibernaclelaw12_ExePages.T24 := by kernel_rfl
theorem hibernaclelaw12_ExePages.bits24 : waitsOk hibernaclelaw12_ExePages.T24.2 hibernaclelaw12_ExePages.B24 = true := by kernel_rfl
set_option maxHeartbeats 8000000 in
set_option maxRecDepth 100000 in
theorem hibernaclelaw12_ExePages.calls (k : Nat) (A0_0 : Option Addr) (c0_0 : Nat) (l0_0 : List Int) (a0_1 : ByteArray) (a0_2 : Int) (a0_3 : Int) (r : Bool) (w : World) (hr0_0 : Kd.C (Kd.int .u32) w A0_0 l0_0.length l0_0) (hc0_0 : l0_0.length ≤ c0_0) (h : hibernaclelaw12_ExePages.f k l0_0 a0_1 a0_2 a0_3 = some r) :
    Calls Try.prog 4 #[.agg #[.slice A0_0 l0_0.length c0_0, .string a0_1, .int .i64 a0_2, .int .u32 a0_3]] w fun e w' => e = .returned (.bool r) ∧ Below w.heap.size w w' := by
  have hu25 := Try.underlying25
  have HR0_0 := Aside0.mk hr0_0
  have HC0_0 := Aside0.mk hc0_0
  clear hr0_0 hc0_0
  have HB := Aside0.mk (Below.refl w.heap.size w)
  have H : ((hibernaclelaw12_great.f l0_0 a0_1 a0_2 a0_3).bind fun t200 => (if t200 = true then (hibernaclelaw12_ExePages.j0 k true l0_0 a0_1 a0_2 a0_3) else ((hibernacleref12_Check.f k l0_0 a0_1 a0_2 a0_3).bind fun t201 => (hibernaclelaw12_ExePages.j0 k (t201 != 0) l0_0 a0_1 a0_2 a0_3)))) = some r := h
  clear h
  have HC2 := Aside0.mk H
  clear H
  go_enter Try.func4, Try.ntmps4
  go_upto_region 1 with (first | ((with_reducible refine gate_dst (N := 1) rfl ?_); (try (refine gate_guard (by rfl) ?_; dsimp only)); refine box_event ?hg (N := 1) ?hd (cs := #[.slice A0_0 l0_0.length c0_0, .string a0_1, .int .i64 a0_2, .int .u32 a0_3]) (t := 25) ?hr ?_; (case hd => rfl); (case hg => rfl); (case hr => first | (go_simp; done) | (go_simp; rfl)); intro gb199 hg w3 hbox hb; have n0_ := Aside0.mk (below_step (by repeat (first | (with_reducible first | exact HB.out | apply below_alloc | apply pw_below_drewN | apply below_drew1) | exact HB.out)) hb); have n1_ := Aside0.mk (hbox); have n2_ := Aside0.mk ((by rw [hg]; exact (below_size (by repeat (first | (with_reducible first | exact HB.out | apply below_alloc | apply pw_below_drewN | apply below_drew1) | exact HB.out))) : w.heap.size ≤ gb199)); have n3_ := Aside0.mk ((by rw [hg]; exact (below_size (by repeat (first | (with_reducible first | exact HB.out | apply below_alloc | apply pw_below_drewN | apply below_drew1) | exact HB.out))) : w.heap.size ≤ gb199)); clear HB; have HB := n0_; have BK199 := n1_; have GW199 := n2_; have GE199 := n3_; clear n0_ n1_ n2_ n3_; clear hb hbox hg))
  (try simp only [Act.put, List.setIfInBounds_toArray, List.set_cons_zero, List.set_cons_succ])
  go_cut [17] (fun v17 wc => ∃ (kq : Nat) (x17_1 : Bool), v17 = .bool x17_1 ∧ Aside0 (hibernaclelaw12_ExePages.j0 kq x17_1 l0_0 a0_1 a0_2 a0_3 = some r) ∧ Aside0 (kq ≤ k) ∧ Aside0 (wc.heap[gb199]? = some (.cells #[(.slice A0_0 l0_0.length c0_0), .string a0_1, .int .i64 a0_2, .int .u32 a0_3] 25 (0, 0))) ∧ Aside0 (Below w.heap.size w wc))
  case first =>
    have H := HC2.out
    clear HC2
    replace H := Option.bind_eq_some_iff.mp H
    obtain ⟨t200, A40, H⟩ := H
    replace H : (if t200 = true then (hibernaclelaw12_ExePages.j0 k true l0_0 a0_1 a0_2 a0_3) else ((hibernacleref12_Check.f k l0_0 a0_1 a0_2 a0_3).bind fun t201 => (hibernaclelaw12_ExePages.j0 k (t201 != 0) l0_0 a0_1 a0_2 a0_3))) = some r := H
    have A4 := Aside0.mk A40
    clear A40
    by_cases c5 : t200 = true
    · subst c5
      have H1 : (hibernaclelaw12_ExePages.j0 k true l0_0 a0_1 a0_2 a0_3) = some r := by rw [if_pos rfl] at H; exact H
      clear H
      have H := H1
      clear H1
      have H' := Aside0.mk H
      clear H
      have hcz6_0 : w3.cell? ⟨gb199, 0, none⟩ = some (.slice A0_0 l0_0.length c0_0) := (blk_cell BK199.out 0).trans rfl
      have hcz6_1 : w3.cell? ⟨gb199, 1, none⟩ = some (.string a0_1) := (blk_cell BK199.out 1).trans rfl
      have hcz6_2 : w3.cell? ⟨gb199, 2, none⟩ = some (.int .i64 a0_2) := (blk_cell BK199.out 2).trans rfl
      have hcz6_3 : w3.cell? ⟨gb199, 3, none⟩ = some (.int .u32 a0_3) := (blk_cell BK199.out 3).trans rfl
      have hfz6_0 := blk_frozen BK199.out 0
      have hfz6_1 := blk_frozen BK199.out 1
      have hfz6_2 := blk_frozen BK199.out 2
      have hfz6_3 := blk_frozen BK199.out 3
      go_wp2_with (first | ((with_reducible refine gate_callee (f := 9) rfl ?_); refine goesL_ (some 12) rfl rfl Try.func9 (by kernel_rfl) rfl #[.agg #[.slice A0_0 l0_0.length c0_0, .string a0_1, .int .i64 a0_2, .int .u32 a0_3]] rfl (by (try simp only [List.map_toArray, List.map_cons, List.map_nil]); first | done | rfl | (simp only [List.length_drop, List.length_take]; rfl)) ?_; (with_reducible refine (hibernaclelaw12_great.calls _ _ l0_0 a0_1 a0_2 a0_3 true _ ?side1 ?side2 A4.out).mono ?_); (case side1 => repeat (first | exact (Kd.C_below HR0_0.out HB.out) | (with_reducible refine Kd.C_alloc ?_ _) | (with_reducible refine Kd.C_drewN ?_ _) | (with_reducible refine Kd.C_drew ?_))); (case side2 => exact HC0_0.out); rintro e w7 ⟨rfl, hb⟩; refine ⟨_, rfl, ?_⟩; have n0_ := Aside0.mk (blk_below (g := gb199) (o := .cells #[.slice A0_0 l0_0.length c0_0, .string a0_1, .int .i64 a0_2, .int .u32 a0_3] 25 (0, 0)) (by (with_reducible repeat (first | refine blk_drewN ?_ _ | refine blk_drew ?_ | refine blk_alloc ?_ _)); exact BK199.out) hb); have n1_ := Aside0.mk (below_step (by repeat (first | (with_reducible first | exact HB.out | apply below_alloc | apply pw_below_drewN | apply below_drew1 | refine below_set ?_ GE199.out) | exact HB.out)) hb); clear BK199; clear HB; have BK199 := n0_; have HB := n1_; clear n0_ n1_; (try clear hb); (try clear hb2); (try clear hk); (try clear hi)))
      go_meet
      case rel => exact ⟨_, (true), (by first | rfl | (simp; done) | (simp [*]; done)), H', ⟨by first | omega | exact Nat.le_refl _⟩, ⟨by (with_reducible repeat (first | refine blk_drewN ?_ _ | refine blk_drew ?_ | refine blk_alloc ?_ _)); exact BK199.out⟩, ⟨by repeat (first | (with_reducible first | exact HB.out | apply below_alloc | apply pw_below_drewN | apply below_drew1 | refine below_set ?_ GE199.out) | exact HB.out)⟩⟩
    · replace c5 := Bool.eq_false_iff.mpr c5
      subst c5
      have H1 : ((hibernacleref12_Check.f k l0_0 a0_1 a0_2 a0_3).bind fun t201 => (hibernaclelaw12_ExePages.j0 k (t201 != 0) l0_0 a0_1 a0_2 a0_3)) = some r := by rw [if_neg (show ¬ (false = true) by decide)] at H; exact H
      clear H
      have H := H1
      clear H1
      replace H := Option.bind_eq_some_iff.mp H
      obtain ⟨t201, A80, H⟩ := H
      replace H : (hibernaclelaw12_ExePages.j0 k (t201 != 0) l0_0 a0_1 a0_2 a0_3) = some r := H
      have A8 := Aside0.mk A80
      clear A80
      have H' := Aside0.mk H
      clear H
      have hcz9_0 : w3.cell? ⟨gb199, 0, none⟩ = some (.slice A0_0 l0_0.length c0_0) := (blk_cell BK199.out 0).trans rfl
      have hcz9_1 : w3.cell? ⟨gb199, 1, none⟩ = some (.string a0_1) := (blk_cell BK199.out 1).trans rfl
      have hcz9_2 : w3.cell? ⟨gb199, 2, none⟩ = some (.int .i64 a0_2) := (blk_cell BK199.out 2).trans rfl
      have hcz9_3 : w3.cell? ⟨gb199, 3, none⟩ = some (.int .u32 a0_3) := (blk_cell BK199.out 3).trans rfl
      have hfz9_0 := blk_frozen BK199.out 0
      have hfz9_1 := blk_frozen BK199.out 1
      have hfz9_2 := blk_frozen BK199.out 2
      have hfz9_3 := blk_frozen BK199.out 3
      go_wp2_with (first | ((with_reducible refine gate_callee (f := 9) rfl ?_); refine goesL_ (some 12) rfl rfl Try.func9 (by kernel_rfl) rfl #[.agg #[.slice A0_0 l0_0.length c0_0, .string a0_1, .int .i64 a0_2, .int .u32 a0_3]] rfl (by (try simp only [List.map_toArray, List.map_cons, List.map_nil]); first | done | rfl | (simp only [List.length_drop, List.length_take]; rfl)) ?_; (with_reducible refine (hibernaclelaw12_great.calls _ _ l0_0 a0_1 a0_2 a0_3 false _ ?side1 ?side2 A4.out).mono ?_); (case side1 => repeat (first | exact (Kd.C_below HR0_0.out HB.out) | (with_reducible refine Kd.C_alloc ?_ _) | (with_reducible refine Kd.C_drewN ?_ _) | (with_reducible refine Kd.C_drew ?_))); (case side2 => exact HC0_0.out); rintro e w10 ⟨rfl, hb⟩; refine ⟨_, rfl, ?_⟩; have n0_ := Aside0.mk (blk_below (g := gb199) (o := .cells #[.slice A0_0 l0_0.length c0_0, .string a0_1, .int .i64 a0_2, .int .u32 a0_3] 25 (0, 0)) (by (with_reducible repeat (first | refine blk_drewN ?_ _ | refine blk_drew ?_ | refine blk_alloc ?_ _)); exact BK199.out) hb); have n1_ := Aside0.mk (below_step (by repeat (first | (with_reducible first | exact HB.out | apply below_alloc | apply pw_below_drewN | apply below_drew1 | refine below_set ?_ GE199.out) | exact HB.out)) hb); clear BK199; clear HB; have BK199 := n0_; have HB := n1_; clear n0_ n1_; (try clear hb); (try clear hb2); (try clear hk); (try clear hi); have hcz11_0 : w10.cell? ⟨gb199, 0, none⟩ = some (.slice A0_0 l0_0.length c0_0) := (blk_cell BK199.out 0).trans rfl; have hcz11_1 : w10.cell? ⟨gb199, 1, none⟩ = some (.string a0_1) := (blk_cell BK199.out 1).trans rfl; have hcz11_2 : w10.cell? ⟨gb199, 2, none⟩ = some (.int .i64 a0_2) := (blk_cell BK199.out 2).trans rfl; have hcz11_3 : w10.cell? ⟨gb199, 3, none⟩ = some (.int .u32 a0_3) := (blk_cell BK199.out 3).trans rfl; have hfz11_0 := blk_frozen BK199.out 0; have hfz11_1 := blk_frozen BK199.out 1; have hfz11_2 := blk_frozen BK199.out 2; have hfz11_3 := blk_frozen BK199.out 3) | (go_at_call 13; (with_reducible refine (hibernacleref12_Check.calls k _ _ l0_0 a0_1 a0_2 a0_3 t201 _ ?side1 ?side2 A8.out).mono ?_); (case side1 => repeat (first | exact (Kd.C_below HR0_0.out HB.out) | (with_reducible refine Kd.C_alloc ?_ _) | (with_reducible refine Kd.C_drewN ?_ _) | (with_reducible refine Kd.C_drew ?_))); (case side2 => exact HC0_0.out); rintro e w12 ⟨rfl, hb⟩; have n0_ := Aside0.mk (blk_below (g := gb199) (o := .cells #[.slice A0_0 l0_0.length c0_0, .string a0_1, .int .i64 a0_2, .int .u32 a0_3] 25 (0, 0)) (by (with_reducible repeat (first | refine blk_drewN ?_ _ | refine blk_drew ?_ | refine blk_alloc ?_ _)); exact BK199.out) hb); have n1_ := Aside0.mk (below_step (by repeat (first | (with_reducible first | exact HB.out | apply below_alloc | apply pw_below_drewN | apply below_drew1 | refine below_set ?_ GE199.out) | exact HB.out)) hb); clear BK199; clear HB; have BK199 := n0_; have HB := n1_; clear n0_ n1_; (try clear hb); (try clear hb2); (try clear hk); (try clear hi)))
      go_meet
      case rel => exact ⟨_, ((t201 != 0)), (by first | rfl | (simp; done) | (simp [*]; done)), H', ⟨by first | omega | exact Nat.le_refl _⟩, ⟨by (with_reducible repeat (first | refine blk_drewN ?_ _ | refine blk_drew ?_ | refine blk_alloc ?_ _)); exact BK199.out⟩, ⟨by repeat (first | (with_reducible first | exact HB.out | apply below_alloc | apply pw_below_drewN | apply below_drew1 | refine below_set ?_ GE199.out) | exact HB.out)⟩⟩
  case rest =>
    clear HC2
    try clear p2
    try clear c4
    try clear c5
    try clear c9
    try clear hcz11_0
    try clear hcz11_1
    try clear hcz11_2
    try clear hcz11_3
    try clear hcz6_0
    try clear hcz6_1
    try clear hcz6_2
    try clear hcz6_3
    try clear hcz9_0
    try clear hcz9_1
    try clear hcz9_2
    try clear hcz9_3
    try clear hfz11_0
    try clear hfz11_1
    try clear hfz11_2
    try clear hfz11_3
    try clear hfz6_0
    try clear hfz6_1
    try clear hfz6_2
    try clear hfz6_3
    try clear hfz9_0
    try clear hfz9_1
    try clear hfz9_2
    try clear hfz9_3
    obtain ⟨kq, x17_1, rfl, HA, HJ1, BK199, HB⟩ := hcut
    cases kq with
    | zero => exact absurd HA.out (by simp [hibernaclelaw12_ExePages.j0])
    | succ kj1 =>
      have H := HA.out
      clear HA
      simp only [hibernaclelaw12_ExePages.j0] at H
      by_cases c13 : x17_1 = true
      · subst c13
        have H1 : ((hibernaclelaw12_awake.f kj1).bind fun t202 => (some t202)) = some r := by rw [if_pos rfl] at H; exact H
        clear H
        have H := H1
        clear H1
        replace H := Option.bind_eq_some_iff.mp H
        obtain ⟨t202, A140, H⟩ := H
        replace H : (some t202) = some r := H
        have A14 := Aside0.mk A140
        clear A140
        obtain rfl := Option.some.inj H
        go_wp2_with (first | ((with_reducible refine gate_callee (f := 10) rfl ?_); refine goesL_ (some 18) rfl rfl Try.func10 (by kernel_rfl) rfl #[] rfl (by (try simp only [List.map_toArray, List.map_cons, List.map_nil]); first | done | rfl | (simp only [List.length_drop, List.length_take]; rfl)) ?_; (with_reducible refine (hibernaclelaw12_awake.calls kj1  t202 _ A14.out).mono ?_); rintro e w15 ⟨rfl, hb⟩; refine ⟨_, rfl, ?_⟩; have n0_ := Aside0.mk (blk_below (g := gb199) (o := .cells #[.slice A0_0 l0_0.length c0_0, .string a0_1, .int .i64 a0_2, .int .u32 a0_3] 25 (0, 0)) (by (with_reducible repeat (first | refine blk_drewN ?_ _ | refine blk_drew ?_ | refine blk_alloc ?_ _)); exact BK199.out) hb); have n1_ := Aside0.mk (below_step (by repeat (first | (with_reducible first | exact HB.out | apply below_alloc | apply pw_below_drewN | apply below_drew1 | refine below_set ?_ GE199.out) | exact HB.out)) hb); clear BK199; clear HB; have BK199 := n0_; have HB := n1_; clear n0_ n1_; (try clear hb); (try clear hb2); (try clear hk); (try clear hi)))
        go_ret
        exact ⟨by first | rfl | (simp [errW_none, errW_some] <;> rfl) | (simp [*, errW_none, errW_some] <;> rfl), by repeat (first | (with_reducible first | exact HB.out | apply below_alloc | apply pw_below_drewN | apply below_drew1 | refine below_set ?_ GE199.out) | exact HB.out)⟩
      · replace c13 := Bool.eq_false_iff.mpr c13
        subst c13
        have H1 : ((exe_Lay.f kj1 l0_0 a0_1 a0_2 a0_3).bind fun bt203 => (if bt203.2 = 0 then (hibernaclelaw12_ExePages.l0 kj1 bt203.1 (⟨#[]⟩ : ByteArray) (⟨#[]⟩ : ByteArray) 0 l0_0 a0_1 a0_2 a0_3) else (some false))) = some r := by rw [if_neg (show ¬ (false = true) by decide)] at H; exact H
        clear H
        have H := H1
        clear H1
        replace H := Option.bind_eq_some_iff.mp H
        obtain ⟨⟨t203, t206⟩, A160, H⟩ := H
        replace H : (if t206 = 0 then (hibernaclelaw12_ExePages.l0 kj1 t203 (⟨#[]⟩ : ByteArray) (⟨#[]⟩ : ByteArray) 0 l0_0 a0_1 a0_2 a0_3) else (some false)) = some r := H
        have A16 := Aside0.mk A160
        clear A160
        by_cases c17 : t206 = 0
        · rw [if_pos c17] at H
          have c17b0 : (t206 == 0) = true := beq_iff_eq.mpr c17
          have c17b1 : (t206 != 0) = false := bne_eq_false_iff_eq.mpr c17
          clear c17
          have H' := Aside0.mk H
          clear H
          have hcz18_0 : wc.cell? ⟨gb199, 0, none⟩ = some (.slice A0_0 l0_0.length c0_0) := (blk_cell BK199.out 0).trans rfl
          have hcz18_1 : wc.cell? ⟨gb199, 1, none⟩ = some (.string a0_1) := (blk_cell BK199.out 1).trans rfl
          have hcz18_2 : wc.cell? ⟨gb199, 2, none⟩ = some (.int .i64 a0_2) := (blk_cell BK199.out 2).trans rfl
          have hcz18_3 : wc.cell? ⟨gb199, 3, none⟩ = some (.int .u32 a0_3) := (blk_cell BK199.out 3).trans rfl
          have hfz18_0 := blk_frozen BK199.out 0
          have hfz18_1 := blk_frozen BK199.out 1
          have hfz18_2 := blk_frozen BK199.out 2
          have hfz18_3 := blk_frozen BK199.out 3
          go_wp2_with (first | ((with_reducible refine gate_callee (f := 11) rfl ?_); refine goesL_ (some 21) rfl rfl Try.func11 (by kernel_rfl) rfl #[.agg #[.slice A0_0 l0_0.length c0_0, .string a0_1, .int .i64 a0_2, .int .u32 a0_3]] rfl (by (try simp only [List.map_toArray, List.map_cons, List.map_nil]); first | done | rfl | (simp only [List.length_drop, List.length_take]; rfl)) ?_; (with_reducible refine (exe_Lay.calls kj1 _ _ l0_0 a0_1 a0_2 a0_3 t203 t206 _ ?side1 ?side2 A16.out).mono ?_); (case side1 => repeat (first | exact (Kd.C_below HR0_0.out HB.out) | (with_reducible refine Kd.C_alloc ?_ _) | (with_reducible refine Kd.C_drewN ?_ _) | (with_reducible refine Kd.C_drew ?_))); (case side2 => exact HC0_0.out); rintro e w19 ⟨v204, rfl, ho0, hb⟩; refine ⟨_, rfl, ?_⟩; have n0_ := Aside0.mk (Kd.R_lower ho0 (below_size (by repeat (first | (with_reducible first | exact HB.out | apply below_alloc | apply pw_below_drewN | apply below_drew1 | refine below_set ?_ GE199.out) | exact HB.out)))); have n1_ := Aside0.mk (blk_below (g := gb199) (o := .cells #[.slice A0_0 l0_0.length c0_0, .string a0_1, .int .i64 a0_2, .int .u32 a0_3] 25 (0, 0)) (by (with_reducible repeat (first | refine blk_drewN ?_ _ | refine blk_drew ?_ | refine blk_alloc ?_ _)); exact BK199.out) hb); have n2_ := Aside0.mk (below_step (by repeat (first | (with_reducible first | exact HB.out | apply below_alloc | apply pw_below_drewN | apply below_drew1 | refine below_set ?_ GE199.out) | exact HB.out)) hb); clear BK199; clear HB; have HO205 := n0_; have BK199 := n1_; have HB := n2_; clear n0_ n1_ n2_; (try clear hb); (try clear hb2); (try clear hk); (try clear hi); (try clear ho0)))
          go_loopg [5, 6, 7] kj1 (fun kq v5 v6 v7 w' => ∃ (x5_2 : ByteArray) (x6_2 : ByteArray) (x7_2 : Int), v5 = .string x5_2 ∧ v6 = .string x6_2 ∧ v7 = .int .i64 x7_2 ∧ Aside0 (hibernaclelaw12_ExePages.l0 kq t203 x5_2 x6_2 x7_2 l0_0 a0_1 a0_2 a0_3 = some r) ∧ Aside0 (kq ≤ kj1) ∧ Aside0 (Kd.R k33 33 w' w.heap.size (fun _ => True) v204 t203) ∧ Aside0 (w'.heap[gb199]? = some (.cells #[(.slice A0_0 l0_0.length c0_0), .string a0_1, .int .i64 a0_2, .int .u32 a0_3] 25 (0, 0))) ∧ Aside0 (Below w.heap.size w w'))
          case atStart => exact ⟨((⟨#[]⟩ : ByteArray)), ((⟨#[]⟩ : ByteArray)), (0), (by first | rfl | (simp; done) | (simp [*]; done)), (by first | rfl | (simp; done) | (simp [*]; done)), (by first | rfl | (simp; done) | (simp [*]; done)), H', ⟨Nat.le_refl _⟩, ⟨by (with_reducible repeat (first | apply Kd.R_alloc | apply Kd.R_drewN | apply Kd.R_drew)); exact HO205.out⟩, ⟨by (with_reducible repeat (first | refine blk_drewN ?_ _ | refine blk_drew ?_ | refine blk_alloc ?_ _)); exact BK199.out⟩, ⟨by repeat (first | (with_reducible first | exact HB.out | apply below_alloc | apply pw_below_drewN | apply below_drew1 | refine below_set ?_ GE199.out) | exact HB.out)⟩⟩
          case round =>
            clear H'
            try clear c1
            try clear p2
            try clear c4
            try clear c5
            try clear c9
            try clear c10
            try clear c11
            try clear c13
            try clear c17
            try clear c17b0
            try clear c17b1
            try clear hcz11_0
            try clear hcz11_1
            try clear hcz11_2
            try clear hcz11_3
            try clear hcz18_0
            try clear hcz18_1
            try clear hcz18_2
            try clear hcz18_3
            try clear hcz6_0
            try clear hcz6_1
            try clear hcz6_2
            try clear hcz6_3
            try clear hcz9_0
            try clear hcz9_1
            try clear hcz9_2
            try clear hcz9_3
            try clear hfz11_0
            try clear hfz11_1
            try clear hfz11_2
            try clear hfz11_3
            try clear hfz18_0
            try clear hfz18_1
            try clear hfz18_2
            try clear hfz18_3
            try clear hfz6_0
            try clear hfz6_1
            try clear hfz6_2
            try clear hfz6_3
            try clear hfz9_0
            try clear hfz9_1
            try clear hfz9_2
            try clear hfz9_3
            try clear p2
            obtain ⟨x5_2, x6_2, x7_2, rfl, rfl, rfl, HA, HK2, HO_3, BK199, HB⟩ := hrel
            cases gk with
            | zero => exact absurd HA.out (by simp [hibernaclelaw12_ExePages.l0])
            | succ k2 =>
              have H := HA.out
              clear HA
              simp only [hibernaclelaw12_ExePages.l0] at H
              by_cases c20 : x7_2 < (t203.length : Int)
              · rw [if_pos c20] at H
                have c20b0 : decide (x7_2 < (t203.length : Int)) = true := decide_eq_true c20
                clear c20
                have HC21 := Aside0.mk H
                clear H
                obtain ⟨Ao22, co22, eo22⟩ := Kd.R_slice HO_3.out
                subst eo22
                go_upto_region 10 with (fail)
                go_cut [56] (fun v56 wc => ∃ (kq : Nat) (x56_20 : Bool), v56 = .bool x56_20 ∧ Aside0 (hibernaclelaw12_ExePages.j2 kq t203 x5_2 x6_2 x7_2 x56_20 l0_0 a0_1 a0_2 a0_3 = some r) ∧ Aside0 (kq ≤ k2) ∧ Aside0 (Kd.R k33 33 wc w.heap.size (fun _ => True) (.slice Ao22 t203.length co22) t203) ∧ Aside0 (wc.heap[gb199]? = some (.cells #[(.slice A0_0 l0_0.length c0_0), .string a0_1, .int .i64 a0_2, .int .u32 a0_3] 25 (0, 0))) ∧ Aside0 (Below w.heap.size w wc))
                case first =>
                  have H := HC21.out
                  clear HC21
                  by_cases c23 : 0 ≤ x7_2
                  · rw [if_pos c23] at H
                    have c23b0 : decide (0 ≤ x7_2) = true := decide_eq_true c23
                    clear c23
                    (first | rw [c23b0] | (simp only [i64_w, i32_w]; rw [c23b0]) | skip)
                    by_cases c24 : (((rd_T33 t203 x7_2).f1).size : Int) = 128
                    · rw [if_pos c24] at H
                      have c24b0 : ((((rd_T33 t203 x7_2).f1).size : Int) == 128) = true := beq_iff_eq.mpr c24
                      have c24b1 : ((((rd_T33 t203 x7_2).f1).size : Int) != 128) = false := bne_eq_false_iff_eq.mpr c24
                      clear c24
                      by_cases c25 : x7_2 > 0
                      · rw [if_pos c25] at H
                        have c25b0 : decide (0 < x7_2) = true := decide_eq_true c25
                        clear c25
                        obtain ⟨ji26, hji26⟩ : ∃ j_ : Int, (wrap64 (x7_2 - 1)) = j_ := ⟨_, rfl⟩
                        replace H : (if 0 ≤ (ji26) then (if (ji26) < (t203.length : Int) then (hibernaclelaw12_ExePages.j2 k2 t203 x5_2 x6_2 x7_2 (decide (((rd_T33 t203 x7_2).f0) ≤ ((rd_T33 t203 (ji26)).f0))) l0_0 a0_1 a0_2 a0_3) else (none)) else (none)) = some r := by first | (rw [hji26] at H; exact H) | (simp only [hji26] at H ⊢; exact H)
                        have hji26w : (IntKind.i64.wrap (x7_2 - 1)) = ji26 := (i64_w _).trans hji26
                        by_cases c27 : 0 ≤ (ji26)
                        · rw [if_pos c27] at H
                          have c27b0 : decide (0 ≤ (ji26)) = true := decide_eq_true c27
                          clear c27
                          by_cases c28 : (ji26) < (t203.length : Int)
                          · rw [if_pos c28] at H
                            have c28b0 : decide ((ji26) < (t203.length : Int)) = true := decide_eq_true c28
                            clear c28
                            have H' := Aside0.mk H
                            clear H
                            try go_wp2
                            have n0_ := Aside0.mk (Kd.R_drew HO_3.out)
                            have n1_ := Aside0.mk (blk_drew BK199.out)
                            have n2_ := Aside0.mk (below_drew1 HB.out)
                            clear HO_3
                            clear BK199
                            clear HB
                            have HO_3 := n0_
                            have BK199 := n1_
                            have HB := n2_
                            clear n0_ n1_ n2_
                            have p207 : 0 ≤ (x7_2 : Int) := of_decide_eq_true (by first | (with_reducible assumption) | assumption)
                            have q207 : x7_2 < (t203.length : Int) := of_decide_eq_true (by first | (with_reducible assumption) | assumption)
                            obtain ⟨ad207, e207, hx207_0, hx207_1, hx207_2⟩ := at_T33 (Kd.R_reads' HO_3.out).2.2 x7_2 p207 q207
                            cases e207
                            replace p207 := eq_true p207
                            replace q207 := eq_true q207
                            have p208 : 0 ≤ (x7_2 : Int) := of_decide_eq_true (by first | (with_reducible assumption) | assumption)
                            have q208 : x7_2 < (t203.length : Int) := of_decide_eq_true (by first | (with_reducible assumption) | assumption)
                            obtain ⟨ad208, e208, hx208_0, hx208_1, hx208_2⟩ := at_T33 (Kd.R_reads' HO_3.out).2.2 x7_2 p208 q208
                            obtain rfl : ad207 = ad208 := (by injection e208)
                            replace p208 := eq_true p208
                            replace q208 := eq_true q208
                            have p209 : 0 ≤ ((ji26) : Int) := of_decide_eq_true (by first | (with_reducible assumption) | assumption)
                            have q209 : (ji26) < (t203.length : Int) := of_decide_eq_true (by first | (with_reducible assumption) | assumption)
                            obtain ⟨ad209, e209, hx209_0, hx209_1, hx209_2⟩ := at_T33 (Kd.R_reads' HO_3.out).2.2 (ji26) p209 q209
                            obtain rfl : ad207 = ad209 := (by injection e209)
                            replace p209 := eq_true p209
                            replace q209 := eq_true q209
                            refine start_ (n := 25) (S := fun w' => w'.cell? (ad207.add ((x7_2).toNat * 3)) = some (.int .i64 ((rd_T33 t203 x7_2).f0)) ∧ w'.cell? ⟨(ad207.add ((x7_2).toNat * 3)).block, (ad207.add ((x7_2).toNat * 3)).off + 1, none⟩ = some (.string ((rd_T33 t203 x7_2).f1)) ∧ w'.cell? ⟨(ad207.add ((x7_2).toNat * 3)).block, (ad207.add ((x7_2).toNat * 3)).off + 2, none⟩ = some (.bool ((rd_T33 t203 x7_2).f2)) ∧ w'.cell? (ad207.add ((x7_2).toNat * 3)) = some (.int .i64 ((rd_T33 t203 x7_2).f0)) ∧ w'.cell? ⟨(ad207.add ((x7_2).toNat * 3)).block, (ad207.add ((x7_2).toNat * 3)).off + 1, none⟩ = some (.string ((rd_T33 t203 x7_2).f1)) ∧ w'.cell? ⟨(ad207.add ((x7_2).toNat * 3)).block, (ad207.add ((x7_2).toNat * 3)).off + 2, none⟩ = some (.bool ((rd_T33 t203 x7_2).f2)) ∧ w'.cell? (ad207.add (((ji26)).toNat * 3)) = some (.int .i64 ((rd_T33 t203 (ji26)).f0)) ∧ w'.cell? ⟨(ad207.add (((ji26)).toNat * 3)).block, (ad207.add (((ji26)).toNat * 3)).off + 1, none⟩ = some (.string ((rd_T33 t203 (ji26)).f1)) ∧ w'.cell? ⟨(ad207.add (((ji26)).toNat * 3)).block, (ad207.add (((ji26)).toNat * 3)).off + 2, none⟩ = some (.bool ((rd_T33 t203 (ji26)).f2))) (ds := []) #[false, false, false, false, false, false, false, false, false, false, false, false, false, false, false, false, false, false, false, false, false, false, false, false, false] (by kernel_rfl) rfl rfl ⟨hx207_0, hx207_1, hx207_2, hx208_0, hx208_1, hx208_2, hx209_0, hx209_1, hx209_2⟩ (fun hHeld => ?_); refine with_tabW hibernaclelaw12_ExePages.tab10 hibernaclelaw12_ExePages.bits10 (fun HT_ HW_ => ?_)
                            generalize wr.drew = w29 at HO_3 BK199 HB hx207_0 hx207_1 hx207_2 hx208_0 hx208_1 hx208_2 hx209_0 hx209_1 hx209_2 hHeld ⊢
                            refine pure_ (i := 0) (N := some 32) (v := ?_) (a' := ?_) #[true, false, false, false, false, false, false, false, false, false, false, false, false, false, false, false, false, false, false, false, false, false, false, false, false] rfl rfl (any_of HT_.out (by kernel_rfl)) (fun _ _ _ h => h) (Or.inl ⟨by rfl, ?_⟩) ?_ ?_
                            rotate_left
                            · intro w'
                              go_simp
                              with_reducible rfl
                            rotate_left
                            · simp only [Act.put, List.setIfInBounds_toArray, List.set_cons_zero, List.set_cons_succ, i64_w, i32_w]
                              rfl
                            refine pure_ (i := 1) (N := some 33) (v := ?_) (a' := ?_) #[true, true, false, false, false, false, false, false, false, false, false, false, false, false, false, false, false, false, false, false, false, false, false, false, false] rfl rfl (any_of HT_.out (by kernel_rfl)) (fun _ _ _ h => h) (Or.inl ⟨by rfl, ?_⟩) ?_ ?_
                            rotate_left
                            · intro w'
                              go_simp
                              with_reducible rfl
                            rotate_left
                            · simp only [Act.put, List.setIfInBounds_toArray, List.set_cons_zero, List.set_cons_succ, i64_w, i32_w]
                              rfl
                            refine pure_ (i := 2) (N := some 34) (v := ?_) (a' := ?_) #[true, true, true, false, false, false, false, false, false, false, false, false, false, false, false, false, false, false, false, false, false, false, false, false, false] rfl rfl (any_of HT_.out (by kernel_rfl)) (fun _ _ _ h => h) (Or.inl ⟨by rfl, ?_⟩) ?_ ?_
                            rotate_left
                            · intro w'
                              go_simp
                              with_reducible rfl
                            rotate_left
                            · simp only [Act.put, List.setIfInBounds_toArray, List.set_cons_zero, List.set_cons_succ, i64_w, i32_w]
                              rfl
                            refine pure_ (i := 3) (N := some 35) (v := ?_) (a' := ?_) #[true, true, true, true, false, false, false, false, false, false, false, false, false, false, false, false, false, false, false, false, false, false, false, false, false] rfl rfl (any_of HT_.out (by kernel_rfl)) (fun _ _ _ h => h) (Or.inl ⟨by rfl, ?_⟩) ?_ ?_
                            rotate_left
                            · intro w'
                              go_simp
                              with_reducible rfl
                            rotate_left
                            · simp only [Act.put, List.setIfInBounds_toArray, List.set_cons_zero, List.set_cons_succ, i64_w, i32_w]
                              rfl
                            refine take_ (i := 4) (N := some 36) (v := ?_) (a' := ?_) #[true, true, true, true, true, false, false, false, false, false, false, false, false, false, false, false, false, false, false, false, false, false, false, false, false] rfl rfl (take_ofW HT_.out HW_.out (by kernel_rfl)) (fun _ _ _ h => h) (Or.inl ⟨by rfl, ?_⟩) hHeld ?_ ?_
                            rotate_left
                            · rintro w' ⟨s0, s1, s2, s3, s4, s5, s6, s7, s8⟩
                              go_simp
                              with_reducible rfl
                            rotate_left
                            · simp only [Act.put, List.setIfInBounds_toArray, List.set_cons_zero, List.set_cons_succ, i64_w, i32_w]
                              rfl
                            refine pure_ (i := 5) (N := some 37) (v := ?_) (a' := ?_) #[true, true, true, true, true, true, false, false, false, false, false, false, false, false, false, false, false, false, false, false, false, false, false, false, false] rfl rfl (any_of HT_.out (by kernel_rfl)) (fun _ _ _ h => h) (Or.inl ⟨by rfl, ?_⟩) ?_ ?_
                            rotate_left
                            · intro w'
                              go_simp
                              with_reducible rfl
                            rotate_left
                            · simp only [Act.put, List.setIfInBounds_toArray, List.set_cons_zero, List.set_cons_succ, i64_w, i32_w]
                              rfl
                            refine pure_ (i := 6) (N := some 38) (v := ?_) (a' := ?_) #[true, true, true, true, true, true, true, false, false, false, false, false, false, false, false, false, false, false, false, false, false, false, false, false, false] rfl rfl (any_of HT_.out (by kernel_rfl)) (fun _ _ _ h => h) (Or.inl ⟨by rfl, ?_⟩) ?_ ?_
                            rotate_left
                            · intro w'
                              go_simp
                              with_reducible rfl
                            rotate_left
                            · simp only [Act.put, List.setIfInBounds_toArray, List.set_cons_zero, List.set_cons_succ, i64_w, i32_w]
                              rfl
                            refine pure_ (i := 7) (N := some 39) (v := ?_) (a' := ?_) #[true, true, true, true, true, true, true, true, false, false, false, false, false, false, false, false, false, false, false, false, false, false, false, false, false] rfl rfl (any_of HT_.out (by kernel_rfl)) (fun _ _ _ h => h) (Or.inl ⟨by rfl, ?_⟩) ?_ ?_
                            rotate_left
                            · intro w'
                              go_simp
                              with_reducible rfl
                            rotate_left
                            · simp only [Act.put, List.setIfInBounds_toArray, List.set_cons_zero, List.set_cons_succ, i64_w, i32_w]
                              rfl
                            refine pure_ (i := 8) (N := some 40) (v := ?_) (a' := ?_) #[true, true, true, true, true, true, true, true, true, false, false, false, false, false, false, false, false, false, false, false, false, false, false, false, false] rfl rfl (any_of HT_.out (by kernel_rfl)) (fun _ _ _ h => h) (Or.inl ⟨by rfl, ?_⟩) ?_ ?_
                            rotate_left
                            · intro w'
                              go_simp
                              with_reducible rfl
                            rotate_left
                            · simp only [Act.put, List.setIfInBounds_toArray, List.set_cons_zero, List.set_cons_succ, i64_w, i32_w]
                              rfl
                            refine pure_ (i := 9) (N := some 41) (v := ?_) (a' := ?_) #[true, true, true, true, true, true, true, true, true, true, false, false, false, false, false, false, false, false, false, false, false, false, false, false, false] rfl rfl (any_of HT_.out (by kernel_rfl)) (fun _ _ _ h => h) (Or.inl ⟨by rfl, ?_⟩) ?_ ?_
                            rotate_left
                            · intro w'
                              go_simp
                              with_reducible rfl
                            rotate_left
                            · simp only [Act.put, List.setIfInBounds_toArray, List.set_cons_zero, List.set_cons_succ, i64_w, i32_w]
                              rfl
                            refine pure_ (i := 10) (N := some 42) (v := ?_) (a' := ?_) #[true, true, true, true, true, true, true, true, true, true, true, false, false, false, false, false, false, false, false, false, false, false, false, false, false] rfl rfl (any_of HT_.out (by kernel_rfl)) (fun _ _ _ h => h) (Or.inl ⟨by rfl, ?_⟩) ?_ ?_
                            rotate_left
                            · intro w'
                              go_simp
                              with_reducible rfl
                            rotate_left
                            · simp only [Act.put, List.setIfInBounds_toArray, List.set_cons_zero, List.set_cons_succ, i64_w, i32_w]
                              rfl
                            refine pure_ (i := 11) (N := some 43) (v := ?_) (a' := ?_) #[true, true, true, true, true, true, true, true, true, true, true, true, false, false, false, false, false, false, false, false, false, false, false, false, false] rfl rfl (any_of HT_.out (by kernel_rfl)) (fun _ _ _ h => h) (Or.inl ⟨by rfl, ?_⟩) ?_ ?_
                            rotate_left
                            · intro w'
                              go_simp
                              with_reducible rfl
                            rotate_left
                            · simp only [Act.put, List.setIfInBounds_toArray, List.set_cons_zero, List.set_cons_succ, i64_w, i32_w]
                              rfl
                            refine pure_ (i := 12) (N := some 44) (v := ?_) (a' := ?_) #[true, true, true, true, true, true, true, true, true, true, true, true, true, false, false, false, false, false, false, false, false, false, false, false, false] rfl rfl (any_of HT_.out (by kernel_rfl)) (fun _ _ _ h => h) (Or.inl ⟨by rfl, ?_⟩) ?_ ?_
                            rotate_left
                            · intro w'
                              go_simp
                              with_reducible rfl
                            rotate_left
                            · simp only [Act.put, List.setIfInBounds_toArray, List.set_cons_zero, List.set_cons_succ, i64_w, i32_w]
                              rfl
                            refine pure_ (i := 13) (N := some 45) (v := ?_) (a' := ?_) #[true, true, true, true, true, true, true, true, true, true, true, true, true, true, false, false, false, false, false, false, false, false, false, false, false] rfl rfl (any_of HT_.out (by kernel_rfl)) (fun _ _ _ h => h) (Or.inl ⟨by rfl, ?_⟩) ?_ ?_
                            rotate_left
                            · intro w'
                              go_simp
                              with_reducible rfl
                            rotate_left
                            · simp only [Act.put, List.setIfInBounds_toArray, List.set_cons_zero, List.set_cons_succ, i64_w, i32_w]
                              rfl
                            refine pure_ (i := 14) (N := some 46) (v := ?_) (a' := ?_) #[true, true, true, true, true, true, true, true, true, true, true, true, true, true, true, false, false, false, false, false, false, false, false, false, false] rfl rfl (any_of HT_.out (by kernel_rfl)) (fun _ _ _ h => h) (Or.inl ⟨by rfl, ?_⟩) ?_ ?_
                            rotate_left
                            · intro w'
                              go_simp
                              with_reducible rfl
                            rotate_left
                            · simp only [Act.put, List.setIfInBounds_toArray, List.set_cons_zero, List.set_cons_succ, i64_w, i32_w]
                              rfl
                            refine pure_ (i := 16) (N := some 48) (v := ?_) (a' := ?_) #[true, true, true, true, true, true, true, true, true, true, true, true, true, true, true, false, true, false, false, false, false, false, false, false, false] rfl rfl (any_of HT_.out (by kernel_rfl)) (fun _ _ _ h => h) (Or.inl ⟨by rfl, ?_⟩) ?_ ?_
                            rotate_left
                            · intro w'
                              go_simp
                              with_reducible rfl
                            rotate_left
                            · simp only [Act.put, List.setIfInBounds_toArray, List.set_cons_zero, List.set_cons_succ, i64_w, i32_w]
                              rfl
                            refine pure_ (i := 17) (N := some 49) (v := ?_) (a' := ?_) #[true, true, true, true, true, true, true, true, true, true, true, true, true, true, true, false, true, true, false, false, false, false, false, false, false] rfl rfl (any_of HT_.out (by kernel_rfl)) (fun _ _ _ h => h) (Or.inl ⟨by rfl, ?_⟩) ?_ ?_
                            rotate_left
                            · intro w'
                              go_simp
                              with_reducible rfl
                            rotate_left
                            · simp only [Act.put, List.setIfInBounds_toArray, List.set_cons_zero, List.set_cons_succ, i64_w, i32_w]
                              rfl
                            refine pure_ (i := 18) (N := some 50) (v := ?_) (a' := ?_) #[true, true, true, true, true, true, true, true, true, true, true, true, true, true, true, false, true, true, true, false, false, false, false, false, false] rfl rfl (any_of HT_.out (by kernel_rfl)) (fun _ _ _ h => h) (Or.inl ⟨by rfl, ?_⟩) ?_ ?_
                            rotate_left
                            · intro w'
                              go_simp
                              with_reducible rfl
                            rotate_left
                            · simp only [Act.put, List.setIfInBounds_toArray, List.set_cons_zero, List.set_cons_succ, i64_w, i32_w]
                              rfl
                            refine pure_ (i := 19) (N := some 51) (v := ?_) (a' := ?_) #[true, true, true, true, true, true, true, true, true, true, true, true, true, true, true, false, true, true, true, true, false, false, false, false, false] rfl rfl (any_of HT_.out (by kernel_rfl)) (fun _ _ _ h => h) (Or.inl ⟨by rfl, ?_⟩) ?_ ?_
                            rotate_left
                            · intro w'
                              go_simp
                              with_reducible rfl
                            rotate_left
                            · simp only [Act.put, List.setIfInBounds_toArray, List.set_cons_zero, List.set_cons_succ, i64_w, i32_w]
                              rfl
                            refine pure_ (i := 20) (N := some 52) (v := ?_) (a' := ?_) #[true, true, true, true, true, true, true, true, true, true, true, true, true, true, true, false, true, true, true, true, true, false, false, false, false] rfl rfl (any_of HT_.out (by kernel_rfl)) (fun _ _ _ h => h) (Or.inl ⟨by rfl, ?_⟩) ?_ ?_
                            rotate_left
                            · intro w'
                              go_simp
                              with_reducible rfl
                            rotate_left
                            · simp only [Act.put, List.setIfInBounds_toArray, List.set_cons_zero, List.set_cons_succ, i64_w, i32_w]
                              rfl
                            refine take_ (i := 15) (N := some 47) (v := ?_) (a' := ?_) #[true, true, true, true, true, true, true, true, true, true, true, true, true, true, true, true, true, true, true, true, true, false, false, false, false] rfl rfl (take_ofW HT_.out HW_.out (by kernel_rfl)) (fun _ _ _ h => h) (Or.inl ⟨by rfl, ?_⟩) hHeld ?_ ?_
                            rotate_left
                            · rintro w' ⟨s0, s1, s2, s3, s4, s5, s6, s7, s8⟩
                              go_simp
                              with_reducible rfl
                            rotate_left
                            · simp only [Act.put, List.setIfInBounds_toArray, List.set_cons_zero, List.set_cons_succ, i64_w, i32_w]
                              rfl
                            refine take_ (i := 21) (N := some 53) (v := ?_) (a' := ?_) #[true, true, true, true, true, true, true, true, true, true, true, true, true, true, true, true, true, true, true, true, true, true, false, false, false] rfl rfl (take_ofW HT_.out HW_.out (by kernel_rfl)) (fun _ _ _ h => h) (Or.inl ⟨by rfl, ?_⟩) hHeld ?_ ?_
                            rotate_left
                            · rintro w' ⟨s0, s1, s2, s3, s4, s5, s6, s7, s8⟩
                              go_simp
                              with_reducible rfl
                            rotate_left
                            · simp only [Act.put, List.setIfInBounds_toArray, List.set_cons_zero, List.set_cons_succ, i64_w, i32_w]
                              rfl
                            refine pure_ (i := 22) (N := some 54) (v := ?_) (a' := ?_) #[true, true, true, true, true, true, true, true, true, true, true, true, true, true, true, true, true, true, true, true, true, true, true, false, false] rfl rfl (any_of HT_.out (by kernel_rfl)) (fun _ _ _ h => h) (Or.inl ⟨by rfl, ?_⟩) ?_ ?_
                            rotate_left
                            · intro w'
                              go_simp
                              with_reducible rfl
                            rotate_left
                            · simp only [Act.put, List.setIfInBounds_toArray, List.set_cons_zero, List.set_cons_succ, i64_w, i32_w]
                              rfl
                            refine pure_ (i := 23) (N := some 55) (v := ?_) (a' := ?_) #[true, true, true, true, true, true, true, true, true, true, true, true, true, true, true, true, true, true, true, true, true, true, true, true, false] rfl rfl (any_of HT_.out (by kernel_rfl)) (fun _ _ _ h => h) (Or.inl ⟨by rfl, ?_⟩) ?_ ?_
                            rotate_left
                            · intro w'
                              go_simp
                              with_reducible rfl
                            rotate_left
                            · simp only [Act.put, List.setIfInBounds_toArray, List.set_cons_zero, List.set_cons_succ, i64_w, i32_w]
                              rfl
                            refine pure_ (i := 24) (N := some 56) (v := ?_) (a' := ?_) #[true, true, true, true, true, true, true, true, true, true, true, true, true, true, true, true, true, true, true, true, true, true, true, true, true] rfl rfl (any_of HT_.out (by kernel_rfl)) (fun _ _ _ h => h) (Or.inl ⟨by rfl, ?_⟩) ?_ ?_
                            rotate_left
                            · intro w'
                              go_simp
                              with_reducible rfl
                            rotate_left
                            · simp only [Act.put, List.setIfInBounds_toArray, List.set_cons_zero, List.set_cons_succ, i64_w, i32_w]
                              rfl
                            refine done_ (done_of HT_.out (by kernel_rfl)) ?_
                            try go_wp2
                            go_meet
                            case rel => exact ⟨_, (decide (((rd_T33 t203 x7_2).f0) ≤ ((rd_T33 t203 (ji26)).f0))), (by first | rfl | (simp; done) | (simp only [← hji26] <;> (first | rfl | simp)) | (simp [*]; done)), H', ⟨by have := HJ1.out; have := HK2.out; first | omega | exact Nat.le_refl _⟩, ⟨by (with_reducible repeat (first | apply Kd.R_alloc | apply Kd.R_drewN | apply Kd.R_drew)); exact HO_3.out⟩, ⟨by (with_reducible repeat (first | refine blk_drewN ?_ _ | refine blk_drew ?_ | refine blk_alloc ?_ _)); exact BK199.out⟩, ⟨by repeat (first | (with_reducible first | exact HB.out | apply below_alloc | apply pw_below_drewN | apply below_drew1 | refine below_set ?_ GE199.out) | exact HB.out)⟩⟩
                          · rw [if_neg c28] at H
                            exact absurd H (by simp)
                        · rw [if_neg c27] at H
                          exact absurd H (by simp)
                      · rw [if_neg c25] at H
                        have c25b0 : decide (0 < x7_2) = false := decide_eq_false c25
                        clear c25
                        have H' := Aside0.mk H
                        clear H
                        try go_wp2
                        have n0_ := Aside0.mk (Kd.R_drew HO_3.out)
                        have n1_ := Aside0.mk (blk_drew BK199.out)
                        have n2_ := Aside0.mk (below_drew1 HB.out)
                        clear HO_3
                        clear BK199
                        clear HB
                        have HO_3 := n0_
                        have BK199 := n1_
                        have HB := n2_
                        clear n0_ n1_ n2_
                        have p207 : 0 ≤ (x7_2 : Int) := of_decide_eq_true (by first | (with_reducible assumption) | assumption)
                        have q207 : x7_2 < (t203.length : Int) := of_decide_eq_true (by first | (with_reducible assumption) | assumption)
                        obtain ⟨ad207, e207, hx207_0, hx207_1, hx207_2⟩ := at_T33 (Kd.R_reads' HO_3.out).2.2 x7_2 p207 q207
                        cases e207
                        replace p207 := eq_true p207
                        replace q207 := eq_true q207
                        refine start_ (n := 25) (S := fun w' => w'.cell? (ad207.add ((x7_2).toNat * 3)) = some (.int .i64 ((rd_T33 t203 x7_2).f0)) ∧ w'.cell? ⟨(ad207.add ((x7_2).toNat * 3)).block, (ad207.add ((x7_2).toNat * 3)).off + 1, none⟩ = some (.string ((rd_T33 t203 x7_2).f1)) ∧ w'.cell? ⟨(ad207.add ((x7_2).toNat * 3)).block, (ad207.add ((x7_2).toNat * 3)).off + 2, none⟩ = some (.bool ((rd_T33 t203 x7_2).f2))) (ds := []) #[false, false, false, false, false, false, false, false, false, false, false, false, false, false, false, false, false, false, false, false, false, false, false, false, false] (by kernel_rfl) rfl rfl ⟨hx207_0, hx207_1, hx207_2⟩ (fun hHeld => ?_); refine with_tabW hibernaclelaw12_ExePages.tab10 hibernaclelaw12_ExePages.bits10 (fun HT_ HW_ => ?_)
                        generalize wr.drew = w30 at HO_3 BK199 HB hx207_0 hx207_1 hx207_2 hHeld ⊢
                        refine pure_ (i := 0) (N := some 32) (v := ?_) (a' := ?_) #[true, false, false, false, false, false, false, false, false, false, false, false, false, false, false, false, false, false, false, false, false, false, false, false, false] rfl rfl (any_of HT_.out (by kernel_rfl)) (fun _ _ _ h => h) (Or.inl ⟨by rfl, ?_⟩) ?_ ?_
                        rotate_left
                        · intro w'
                          go_simp
                          with_reducible rfl
                        rotate_left
                        · simp only [Act.put, List.setIfInBounds_toArray, List.set_cons_zero, List.set_cons_succ, i64_w, i32_w]
                          rfl
                        refine pure_ (i := 1) (N := some 33) (v := ?_) (a' := ?_) #[true, true, false, false, false, false, false, false, false, false, false, false, false, false, false, false, false, false, false, false, false, false, false, false, false] rfl rfl (any_of HT_.out (by kernel_rfl)) (fun _ _ _ h => h) (Or.inl ⟨by rfl, ?_⟩) ?_ ?_
                        rotate_left
                        · intro w'
                          go_simp
                          with_reducible rfl
                        rotate_left
                        · simp only [Act.put, List.setIfInBounds_toArray, List.set_cons_zero, List.set_cons_succ, i64_w, i32_w]
                          rfl
                        refine pure_ (i := 2) (N := some 34) (v := ?_) (a' := ?_) #[true, true, true, false, false, false, false, false, false, false, false, false, false, false, false, false, false, false, false, false, false, false, false, false, false] rfl rfl (any_of HT_.out (by kernel_rfl)) (fun _ _ _ h => h) (Or.inl ⟨by rfl, ?_⟩) ?_ ?_
                        rotate_left
                        · intro w'
                          go_simp
                          with_reducible rfl
                        rotate_left
                        · simp only [Act.put, List.setIfInBounds_toArray, List.set_cons_zero, List.set_cons_succ, i64_w, i32_w]
                          rfl
                        refine pure_ (i := 3) (N := some 35) (v := ?_) (a' := ?_) #[true, true, true, true, false, false, false, false, false, false, false, false, false, false, false, false, false, false, false, false, false, false, false, false, false] rfl rfl (any_of HT_.out (by kernel_rfl)) (fun _ _ _ h => h) (Or.inl ⟨by rfl, ?_⟩) ?_ ?_
                        rotate_left
                        · intro w'
                          go_simp
                          with_reducible rfl
                        rotate_left
                        · simp only [Act.put, List.setIfInBounds_toArray, List.set_cons_zero, List.set_cons_succ, i64_w, i32_w]
                          rfl
                        refine take_ (i := 4) (N := some 36) (v := ?_) (a' := ?_) #[true, true, true, true, true, false, false, false, false, false, false, false, false, false, false, false, false, false, false, false, false, false, false, false, false] rfl rfl (take_ofW HT_.out HW_.out (by kernel_rfl)) (fun _ _ _ h => h) (Or.inl ⟨by rfl, ?_⟩) hHeld ?_ ?_
                        rotate_left
                        · rintro w' ⟨s0, s1, s2⟩
                          go_simp
                          with_reducible rfl
                        rotate_left
                        · simp only [Act.put, List.setIfInBounds_toArray, List.set_cons_zero, List.set_cons_succ, i64_w, i32_w]
                          rfl
                        refine pure_ (i := 5) (N := some 37) (v := ?_) (a' := ?_) #[true, true, true, true, true, true, false, false, false, false, false, false, false, false, false, false, false, false, false, false, false, false, false, false, false] rfl rfl (any_of HT_.out (by kernel_rfl)) (fun _ _ _ h => h) (Or.inl ⟨by rfl, ?_⟩) ?_ ?_
                        rotate_left
                        · intro w'
                          go_simp
                          with_reducible rfl
                        rotate_left
                        · simp only [Act.put, List.setIfInBounds_toArray, List.set_cons_zero, List.set_cons_succ, i64_w, i32_w]
                          rfl
                        refine pure_ (i := 6) (N := some 38) (v := ?_) (a' := ?_) #[true, true, true, true, true, true, true, false, false, false, false, false, false, false, false, false, false, false, false, false, false, false, false, false, false] rfl rfl (any_of HT_.out (by kernel_rfl)) (fun _ _ _ h => h) (Or.inl ⟨by rfl, ?_⟩) ?_ ?_
                        rotate_left
                        · intro w'
                          go_simp
                          with_reducible rfl
                        rotate_left
                        · simp only [Act.put, List.setIfInBounds_toArray, List.set_cons_zero, List.set_cons_succ, i64_w, i32_w]
                          rfl
                        refine pure_ (i := 7) (N := some 39) (v := ?_) (a' := ?_) #[true, true, true, true, true, true, true, true, false, false, false, false, false, false, false, false, false, false, false, false, false, false, false, false, false] rfl rfl (any_of HT_.out (by kernel_rfl)) (fun _ _ _ h => h) (Or.inl ⟨by rfl, ?_⟩) ?_ ?_
                        rotate_left
                        · intro w'
                          go_simp
                          with_reducible rfl
                        rotate_left
                        · simp only [Act.put, List.setIfInBounds_toArray, List.set_cons_zero, List.set_cons_succ, i64_w, i32_w]
                          rfl
                        refine pure_ (i := 8) (N := some 40) (v := ?_) (a' := ?_) #[true, true, true, true, true, true, true, true, true, false, false, false, false, false, false, false, false, false, false, false, false, false, false, false, false] rfl rfl (any_of HT_.out (by kernel_rfl)) (fun _ _ _ h => h) (Or.inl ⟨by rfl, ?_⟩) ?_ ?_
                        rotate_left
                        · intro w'
                          go_simp
                          with_reducible rfl
                        rotate_left
                        · simp only [Act.put, List.setIfInBounds_toArray, List.set_cons_zero, List.set_cons_succ, i64_w, i32_w]
                          rfl
                        refine pure_ (i := 9) (N := some 41) (v := ?_) (a' := ?_) #[true, true, true, true, true, true, true, true, true, true, false, false, false, false, false, false, false, false, false, false, false, false, false, false, false] rfl rfl (any_of HT_.out (by kernel_rfl)) (fun _ _ _ h => h) (Or.inl ⟨by rfl, ?_⟩) ?_ ?_
                        rotate_left
                        · intro w'
                          go_simp
                          with_reducible rfl
                        rotate_left
                        · simp only [Act.put, List.setIfInBounds_toArray, List.set_cons_zero, List.set_cons_succ, i64_w, i32_w]
                          rfl
                        refine pure_ (i := 10) (N := some 42) (v := ?_) (a' := ?_) #[true, true, true, true, true, true, true, true, true, true, true, false, false, false, false, false, false, false, false, false, false, false, false, false, false] rfl rfl (any_of HT_.out (by kernel_rfl)) (fun _ _ _ h => h) (Or.inl ⟨by rfl, ?_⟩) ?_ ?_
                        rotate_left
                        · intro w'
                          go_simp
                          with_reducible rfl
                        rotate_left
                        · simp only [Act.put, List.setIfInBounds_toArray, List.set_cons_zero, List.set_cons_succ, i64_w, i32_w]
                          rfl
                        refine pure_ (i := 11) (N := some 43) (v := undef) (a' := ?_) #[true, true, true, true, true, true, true, true, true, true, true, true, false, false, false, false, false, false, false, false, false, false, false, false, false] rfl rfl (any_of HT_.out (by kernel_rfl)) (fun _ _ _ h => h) (Or.inr ⟨by rfl, rfl⟩) ?_ ?_
                        rotate_left
                        · simp only [Act.put, List.setIfInBounds_toArray, List.set_cons_zero, List.set_cons_succ, i64_w, i32_w]
                          rfl
                        refine pure_ (i := 12) (N := some 44) (v := undef) (a' := ?_) #[true, true, true, true, true, true, true, true, true, true, true, true, true, false, false, false, false, false, false, false, false, false, false, false, false] rfl rfl (any_of HT_.out (by kernel_rfl)) (fun _ _ _ h => h) (Or.inr ⟨by rfl, rfl⟩) ?_ ?_
                        rotate_left
                        · simp only [Act.put, List.setIfInBounds_toArray, List.set_cons_zero, List.set_cons_succ, i64_w, i32_w]
                          rfl
                        refine pure_ (i := 13) (N := some 45) (v := undef) (a' := ?_) #[true, true, true, true, true, true, true, true, true, true, true, true, true, true, false, false, false, false, false, false, false, false, false, false, false] rfl rfl (any_of HT_.out (by kernel_rfl)) (fun _ _ _ h => h) (Or.inr ⟨by rfl, rfl⟩) ?_ ?_
                        rotate_left
                        · simp only [Act.put, List.setIfInBounds_toArray, List.set_cons_zero, List.set_cons_succ, i64_w, i32_w]
                          rfl
                        refine pure_ (i := 14) (N := some 46) (v := undef) (a' := ?_) #[true, true, true, true, true, true, true, true, true, true, true, true, true, true, true, false, false, false, false, false, false, false, false, false, false] rfl rfl (any_of HT_.out (by kernel_rfl)) (fun _ _ _ h => h) (Or.inr ⟨by rfl, rfl⟩) ?_ ?_
                        rotate_left
                        · simp only [Act.put, List.setIfInBounds_toArray, List.set_cons_zero, List.set_cons_succ, i64_w, i32_w]
                          rfl
                        refine pure_ (i := 15) (N := some 47) (v := undef) (a' := ?_) #[true, true, true, true, true, true, true, true, true, true, true, true, true, true, true, true, false, false, false, false, false, false, false, false, false] rfl rfl (any_of HT_.out (by kernel_rfl)) (fun _ _ _ h => h) (Or.inr ⟨by rfl, rfl⟩) ?_ ?_
                        rotate_left
                        · simp only [Act.put, List.setIfInBounds_toArray, List.set_cons_zero, List.set_cons_succ, i64_w, i32_w]
                          rfl
                        refine pure_ (i := 16) (N := some 48) (v := undef) (a' := ?_) #[true, true, true, true, true, true, true, true, true, true, true, true, true, true, true, true, true, false, false, false, false, false, false, false, false] rfl rfl (any_of HT_.out (by kernel_rfl)) (fun _ _ _ h => h) (Or.inr ⟨by rfl, rfl⟩) ?_ ?_
                        rotate_left
                        · simp only [Act.put, List.setIfInBounds_toArray, List.set_cons_zero, List.set_cons_succ, i64_w, i32_w]
                          rfl
                        refine pure_ (i := 17) (N := some 49) (v := undef) (a' := ?_) #[true, true, true, true, true, true, true, true, true, true, true, true, true, true, true, true, true, true, false, false, false, false, false, false, false] rfl rfl (any_of HT_.out (by kernel_rfl)) (fun _ _ _ h => h) (Or.inr ⟨by rfl, rfl⟩) ?_ ?_
                        rotate_left
                        · simp only [Act.put, List.setIfInBounds_toArray, List.set_cons_zero, List.set_cons_succ, i64_w, i32_w]
                          rfl
                        refine pure_ (i := 18) (N := some 50) (v := undef) (a' := ?_) #[true, true, true, true, true, true, true, true, true, true, true, true, true, true, true, true, true, true, true, false, false, false, false, false, false] rfl rfl (any_of HT_.out (by kernel_rfl)) (fun _ _ _ h => h) (Or.inr ⟨by rfl, rfl⟩) ?_ ?_
                        rotate_left
                        · simp only [Act.put, List.setIfInBounds_toArray, List.set_cons_zero, List.set_cons_succ, i64_w, i32_w]
                          rfl
                        refine pure_ (i := 19) (N := some 51) (v := undef) (a' := ?_) #[true, true, true, true, true, true, true, true, true, true, true, true, true, true, true, true, true, true, true, true, false, false, false, false, false] rfl rfl (any_of HT_.out (by kernel_rfl)) (fun _ _ _ h => h) (Or.inr ⟨by rfl, rfl⟩) ?_ ?_
                        rotate_left
                        · simp only [Act.put, List.setIfInBounds_toArray, List.set_cons_zero, List.set_cons_succ, i64_w, i32_w]
                          rfl
                        refine pure_ (i := 20) (N := some 52) (v := undef) (a' := ?_) #[true, true, true, true, true, true, true, true, true, true, true, true, true, true, true, true, true, true, true, true, true, false, false, false, false] rfl rfl (any_of HT_.out (by kernel_rfl)) (fun _ _ _ h => h) (Or.inr ⟨by rfl, rfl⟩) ?_ ?_
                        rotate_left
                        · simp only [Act.put, List.setIfInBounds_toArray, List.set_cons_zero, List.set_cons_succ, i64_w, i32_w]
                          rfl
                        refine pure_ (i := 21) (N := some 53) (v := undef) (a' := ?_) #[true, true, true, true, true, true, true, true, true, true, true, true, true, true, true, true, true, true, true, true, true, true, false, false, false] rfl rfl (any_of HT_.out (by kernel_rfl)) (fun _ _ _ h => h) (Or.inr ⟨by rfl, rfl⟩) ?_ ?_
                        rotate_left
                        · simp only [Act.put, List.setIfInBounds_toArray, List.set_cons_zero, List.set_cons_succ, i64_w, i32_w]
                          rfl
                        refine pure_ (i := 22) (N := some 54) (v := undef) (a' := ?_) #[true, true, true, true, true, true, true, true, true, true, true, true, true, true, true, true, true, true, true, true, true, true, true, false, false] rfl rfl (any_of HT_.out (by kernel_rfl)) (fun _ _ _ h => h) (Or.inr ⟨by rfl, rfl⟩) ?_ ?_
                        rotate_left
                        · simp only [Act.put, List.setIfInBounds_toArray, List.set_cons_zero, List.set_cons_succ, i64_w, i32_w]
                          rfl
                        refine pure_ (i := 23) (N := some 55) (v := ?_) (a' := ?_) #[true, true, true, true, true, true, true, true, true, true, true, true, true, true, true, true, true, true, true, true, true, true, true, true, false] rfl rfl (any_of HT_.out (by kernel_rfl)) (fun _ _ _ h => h) (Or.inl ⟨by rfl, ?_⟩) ?_ ?_
                        rotate_left
                        · intro w'
                          go_simp
                          with_reducible rfl
                        rotate_left
                        · simp only [Act.put, List.setIfInBounds_toArray, List.set_cons_zero, List.set_cons_succ, i64_w, i32_w]
                          rfl
                        refine pure_ (i := 24) (N := some 56) (v := ?_) (a' := ?_) #[true, true, true, true, true, true, true, true, true, true, true, true, true, true, true, true, true, true, true, true, true, true, true, true, true] rfl rfl (any_of HT_.out (by kernel_rfl)) (fun _ _ _ h => h) (Or.inl ⟨by rfl, ?_⟩) ?_ ?_
                        rotate_left
                        · intro w'
                          go_simp
                          with_reducible rfl
                        rotate_left
                        · simp only [Act.put, List.setIfInBounds_toArray, List.set_cons_zero, List.set_cons_succ, i64_w, i32_w]
                          rfl
                        refine done_ (done_of HT_.out (by kernel_rfl)) ?_
                        try go_wp2
                        go_meet
                        case rel => exact ⟨_, (false), (by first | rfl | (simp; done) | (simp [*]; done)), H', ⟨by have := HJ1.out; have := HK2.out; first | omega | exact Nat.le_refl _⟩, ⟨by (with_reducible repeat (first | apply Kd.R_alloc | apply Kd.R_drewN | apply Kd.R_drew)); exact HO_3.out⟩, ⟨by (with_reducible repeat (first | refine blk_drewN ?_ _ | refine blk_drew ?_ | refine blk_alloc ?_ _)); exact BK199.out⟩, ⟨by repeat (first | (with_reducible first | exact HB.out | apply below_alloc | apply pw_below_drewN | apply below_drew1 | refine below_set ?_ GE199.out) | exact HB.out)⟩⟩
                    · rw [if_neg c24] at H
                      have c24b0 : ((((rd_T33 t203 x7_2).f1).size : Int) == 128) = false := beq_eq_false_iff_ne.mpr c24
                      have c24b1 : ((((rd_T33 t203 x7_2).f1).size : Int) != 128) = true := bne_iff_ne.mpr c24
                      have H' := Aside0.mk H
                      clear H
                      try go_wp2
                      have n0_ := Aside0.mk (Kd.R_drew HO_3.out)
                      have n1_ := Aside0.mk (blk_drew BK199.out)
                      have n2_ := Aside0.mk (below_drew1 HB.out)
                      clear HO_3
                      clear BK199
                      clear HB
                      have HO_3 := n0_
                      have BK199 := n1_
                      have HB := n2_
                      clear n0_ n1_ n2_
                      have p207 : 0 ≤ (x7_2 : Int) := of_decide_eq_true (by first | (with_reducible assumption) | assumption)
                      have q207 : x7_2 < (t203.length : Int) := of_decide_eq_true (by first | (with_reducible assumption) | assumption)
                      obtain ⟨ad207, e207, hx207_0, hx207_1, hx207_2⟩ := at_T33 (Kd.R_reads' HO_3.out).2.2 x7_2 p207 q207
                      cases e207
                      replace p207 := eq_true p207
                      replace q207 := eq_true q207
                      refine start_ (n := 25) (S := fun w' => w'.cell? (ad207.add ((x7_2).toNat * 3)) = some (.int .i64 ((rd_T33 t203 x7_2).f0)) ∧ w'.cell? ⟨(ad207.add ((x7_2).toNat * 3)).block, (ad207.add ((x7_2).toNat * 3)).off + 1, none⟩ = some (.string ((rd_T33 t203 x7_2).f1)) ∧ w'.cell? ⟨(ad207.add ((x7_2).toNat * 3)).block, (ad207.add ((x7_2).toNat * 3)).off + 2, none⟩ = some (.bool ((rd_T33 t203 x7_2).f2))) (ds := []) #[false, false, false, false, false, false, false, false, false, false, false, false, false, false, false, false, false, false, false, false, false, false, false, false, false] (by kernel_rfl) rfl rfl ⟨hx207_0, hx207_1, hx207_2⟩ (fun hHeld => ?_); refine with_tabW hibernaclelaw12_ExePages.tab10 hibernaclelaw12_ExePages.bits10 (fun HT_ HW_ => ?_)
                      generalize wr.drew = w31 at HO_3 BK199 HB hx207_0 hx207_1 hx207_2 hHeld ⊢
                      refine pure_ (i := 0) (N := some 32) (v := ?_) (a' := ?_) #[true, false, false, false, false, false, false, false, false, false, false, false, false, false, false, false, false, false, false, false, false, false, false, false, false] rfl rfl (any_of HT_.out (by kernel_rfl)) (fun _ _ _ h => h) (Or.inl ⟨by rfl, ?_⟩) ?_ ?_
                      rotate_left
                      · intro w'
                        go_simp
                        with_reducible rfl
                      rotate_left
                      · simp only [Act.put, List.setIfInBounds_toArray, List.set_cons_zero, List.set_cons_succ, i64_w, i32_w]
                        rfl
                      refine pure_ (i := 1) (N := some 33) (v := ?_) (a' := ?_) #[true, true, false, false, false, false, false, false, false, false, false, false, false, false, false, false, false, false, false, false, false, false, false, false, false] rfl rfl (any_of HT_.out (by kernel_rfl)) (fun _ _ _ h => h) (Or.inl ⟨by rfl, ?_⟩) ?_ ?_
                      rotate_left
                      · intro w'
                        go_simp
                        with_reducible rfl
                      rotate_left
                      · simp only [Act.put, List.setIfInBounds_toArray, List.set_cons_zero, List.set_cons_succ, i64_w, i32_w]
                        rfl
                      refine pure_ (i := 2) (N := some 34) (v := ?_) (a' := ?_) #[true, true, true, false, false, false, false, false, false, false, false, false, false, false, false, false, false, false, false, false, false, false, false, false, false] rfl rfl (any_of HT_.out (by kernel_rfl)) (fun _ _ _ h => h) (Or.inl ⟨by rfl, ?_⟩) ?_ ?_
                      rotate_left
                      · intro w'
                        go_simp
                        with_reducible rfl
                      rotate_left
                      · simp only [Act.put, List.setIfInBounds_toArray, List.set_cons_zero, List.set_cons_succ, i64_w, i32_w]
                        rfl
                      refine pure_ (i := 3) (N := some 35) (v := ?_) (a' := ?_) #[true, true, true, true, false, false, false, false, false, false, false, false, false, false, false, false, false, false, false, false, false, false, false, false, false] rfl rfl (any_of HT_.out (by kernel_rfl)) (fun _ _ _ h => h) (Or.inl ⟨by rfl, ?_⟩) ?_ ?_
                      rotate_left
                      · intro w'
                        go_simp
                        with_reducible rfl
                      rotate_left
                      · simp only [Act.put, List.setIfInBounds_toArray, List.set_cons_zero, List.set_cons_succ, i64_w, i32_w]
                        rfl
                      refine take_ (i := 4) (N := some 36) (v := ?_) (a' := ?_) #[true, true, true, true, true, false, false, false, false, false, false, false, false, false, false, false, false, false, false, false, false, false, false, false, false] rfl rfl (take_ofW HT_.out HW_.out (by kernel_rfl)) (fun _ _ _ h => h) (Or.inl ⟨by rfl, ?_⟩) hHeld ?_ ?_
                      rotate_left
                      · rintro w' ⟨s0, s1, s2⟩
                        go_simp
                        with_reducible rfl
                      rotate_left
                      · simp only [Act.put, List.setIfInBounds_toArray, List.set_cons_zero, List.set_cons_succ, i64_w, i32_w]
                        rfl
                      refine pure_ (i := 5) (N := some 37) (v := ?_) (a' := ?_) #[true, true, true, true, true, true, false, false, false, false, false, false, false, false, false, false, false, false, false, false, false, false, false, false, false] rfl rfl (any_of HT_.out (by kernel_rfl)) (fun _ _ _ h => h) (Or.inl ⟨by rfl, ?_⟩) ?_ ?_
                      rotate_left
                      · intro w'
                        go_simp
                        with_reducible rfl
                      rotate_left
                      · simp only [Act.put, List.setIfInBounds_toArray, List.set_cons_zero, List.set_cons_succ, i64_w, i32_w]
                        rfl
                      refine pure_ (i := 6) (N := some 38) (v := ?_) (a' := ?_) #[true, true, true, true, true, true, true, false, false, false, false, false, false, false, false, false, false, false, false, false, false, false, false, false, false] rfl rfl (any_of HT_.out (by kernel_rfl)) (fun _ _ _ h => h) (Or.inl ⟨by rfl, ?_⟩) ?_ ?_
                      rotate_left
                      · intro w'
                        go_simp
                        with_reducible rfl
                      rotate_left
                      · simp only [Act.put, List.setIfInBounds_toArray, List.set_cons_zero, List.set_cons_succ, i64_w, i32_w]
                        rfl
                      refine pure_ (i := 7) (N := some 39) (v := ?_) (a' := ?_) #[true, true, true, true, true, true, true, true, false, false, false, false, false, false, false, false, false, false, false, false, false, false, false, false, false] rfl rfl (any_of HT_.out (by kernel_rfl)) (fun _ _ _ h => h) (Or.inl ⟨by rfl, ?_⟩) ?_ ?_
                      rotate_left
                      · intro w'
                        go_simp
                        with_reducible rfl
                      rotate_left
                      · simp only [Act.put, List.setIfInBounds_toArray, List.set_cons_zero, List.set_cons_succ, i64_w, i32_w]
                        rfl
                      refine pure_ (i := 8) (N := some 40) (v := undef) (a' := ?_) #[true, true, true, true, true, true, true, true, true, false, false, false, false, false, false, false, false, false, false, false, false, false, false, false, false] rfl rfl (any_of HT_.out (by kernel_rfl)) (fun _ _ _ h => h) (Or.inr ⟨by rfl, rfl⟩) ?_ ?_
                      rotate_left
                      · simp only [Act.put, List.setIfInBounds_toArray, List.set_cons_zero, List.set_cons_succ, i64_w, i32_w]
                        rfl
                      refine pure_ (i := 9) (N := some 41) (v := undef) (a' := ?_) #[true, true, true, true, true, true, true, true, true, true, false, false, false, false, false, false, false, false, false, false, false, false, false, false, false] rfl rfl (any_of HT_.out (by kernel_rfl)) (fun _ _ _ h => h) (Or.inr ⟨by rfl, rfl⟩) ?_ ?_
                      rotate_left
                      · simp only [Act.put, List.setIfInBounds_toArray, List.set_cons_zero, List.set_cons_succ, i64_w, i32_w]
                        rfl
                      refine pure_ (i := 10) (N := some 42) (v := undef) (a' := ?_) #[true, true, true, true, true, true, true, true, true, true, true, false, false, false, false, false, false, false, false, false, false, false, false, false, false] rfl rfl (any_of HT_.out (by kernel_rfl)) (fun _ _ _ h => h) (Or.inr ⟨by rfl, rfl⟩) ?_ ?_
                      rotate_left
                      · simp only [Act.put, List.setIfInBounds_toArray, List.set_cons_zero, List.set_cons_succ, i64_w, i32_w]
                        rfl
                      refine pure_ (i := 11) (N := some 43) (v := undef) (a' := ?_) #[true, true, true, true, true, true, true, true, true, true, true, true, false, false, false, false, false, false, false, false, false, false, false, false, false] rfl rfl (any_of HT_.out (by kernel_rfl)) (fun _ _ _ h => h) (Or.inr ⟨by rfl, rfl⟩) ?_ ?_
                      rotate_left
                      · simp only [Act.put, List.setIfInBounds_toArray, List.set_cons_zero, List.set_cons_succ, i64_w, i32_w]
                        rfl
                      refine pure_ (i := 12) (N := some 44) (v := undef) (a' := ?_) #[true, true, true, true, true, true, true, true, true, true, true, true, true, false, false, false, false, false, false, false, false, false, false, false, false] rfl rfl (any_of HT_.out (by kernel_rfl)) (fun _ _ _ h => h) (Or.inr ⟨by rfl, rfl⟩) ?_ ?_
                      rotate_left
                      · simp only [Act.put, List.setIfInBounds_toArray, List.set_cons_zero, List.set_cons_succ, i64_w, i32_w]
                        rfl
                      refine pure_ (i := 13) (N := some 45) (v := undef) (a' := ?_) #[true, true, true, true, true, true, true, true, true, true, true, true, true, true, false, false, false, false, false, false, false, false, false, false, false] rfl rfl (any_of HT_.out (by kernel_rfl)) (fun _ _ _ h => h) (Or.inr ⟨by rfl, rfl⟩) ?_ ?_
                      rotate_left
                      · simp only [Act.put, List.setIfInBounds_toArray, List.set_cons_zero, List.set_cons_succ, i64_w, i32_w]
                        rfl
                      refine pure_ (i := 14) (N := some 46) (v := undef) (a' := ?_) #[true, true, true, true, true, true, true, true, true, true, true, true, true, true, true, false, false, false, false, false, false, false, false, false, false] rfl rfl (any_of HT_.out (by kernel_rfl)) (fun _ _ _ h => h) (Or.inr ⟨by rfl, rfl⟩) ?_ ?_
                      rotate_left
                      · simp only [Act.put, List.setIfInBounds_toArray, List.set_cons_zero, List.set_cons_succ, i64_w, i32_w]
                        rfl
                      refine pure_ (i := 15) (N := some 47) (v := undef) (a' := ?_) #[true, true, true, true, true, true, true, true, true, true, true, true, true, true, true, true, false, false, false, false, false, false, false, false, false] rfl rfl (any_of HT_.out (by kernel_rfl)) (fun _ _ _ h => h) (Or.inr ⟨by rfl, rfl⟩) ?_ ?_
                      rotate_left
                      · simp only [Act.put, List.setIfInBounds_toArray, List.set_cons_zero, List.set_cons_succ, i64_w, i32_w]
                        rfl
                      refine pure_ (i := 16) (N := some 48) (v := undef) (a' := ?_) #[true, true, true, true, true, true, true, true, true, true, true, true, true, true, true, true, true, false, false, false, false, false, false, false, false] rfl rfl (any_of HT_.out (by kernel_rfl)) (fun _ _ _ h => h) (Or.inr ⟨by rfl, rfl⟩) ?_ ?_
                      rotate_left
                      · simp only [Act.put, List.setIfInBounds_toArray, List.set_cons_zero, List.set_cons_succ, i64_w, i32_w]
                        rfl
                      refine pure_ (i := 17) (N := some 49) (v := undef) (a' := ?_) #[true, true, true, true, true, true, true, true, true, true, true, true, true, true, true, true, true, true, false, false, false, false, false, false, false] rfl rfl (any_of HT_.out (by kernel_rfl)) (fun _ _ _ h => h) (Or.inr ⟨by rfl, rfl⟩) ?_ ?_
                      rotate_left
                      · simp only [Act.put, List.setIfInBounds_toArray, List.set_cons_zero, List.set_cons_succ, i64_w, i32_w]
                        rfl
                      refine pure_ (i := 18) (N := some 50) (v := undef) (a' := ?_) #[true, true, true, true, true, true, true, true, true, true, true, true, true, true, true, true, true, true, true, false, false, false, false, false, false] rfl rfl (any_of HT_.out (by kernel_rfl)) (fun _ _ _ h => h) (Or.inr ⟨by rfl, rfl⟩) ?_ ?_
                      rotate_left
                      · simp only [Act.put, List.setIfInBounds_toArray, List.set_cons_zero, List.set_cons_succ, i64_w, i32_w]
                        rfl
                      refine pure_ (i := 19) (N := some 51) (v := undef) (a' := ?_) #[true, true, true, true, true, true, true, true, true, true, true, true, true, true, true, true, true, true, true, true, false, false, false, false, false] rfl rfl (any_of HT_.out (by kernel_rfl)) (fun _ _ _ h => h) (Or.inr ⟨by rfl, rfl⟩) ?_ ?_
                      rotate_left
                      · simp only [Act.put, List.setIfInBounds_toArray, List.set_cons_zero, List.set_cons_succ, i64_w, i32_w]
                        rfl
                      refine pure_ (i := 20) (N := some 52) (v := undef) (a' := ?_) #[true, true, true, true, true, true, true, true, true, true, true, true, true, true, true, true, true, true, true, true, true, false, false, false, false] rfl rfl (any_of HT_.out (by kernel_rfl)) (fun _ _ _ h => h) (Or.inr ⟨by rfl, rfl⟩) ?_ ?_
                      rotate_left
                      · simp only [Act.put, List.setIfInBounds_toArray, List.set_cons_zero, List.set_cons_succ, i64_w, i32_w]
                        rfl
                      refine pure_ (i := 21) (N := some 53) (v := undef) (a' := ?_) #[true, true, true, true, true, true, true, true, true, true, true, true, true, true, true, true, true, true, true, true, true, true, false, false, false] rfl rfl (any_of HT_.out (by kernel_rfl)) (fun _ _ _ h => h) (Or.inr ⟨by rfl, rfl⟩) ?_ ?_
                      rotate_left
                      · simp only [Act.put, List.setIfInBounds_toArray, List.set_cons_zero, List.set_cons_succ, i64_w, i32_w]
                        rfl
                      refine pure_ (i := 22) (N := some 54) (v := undef) (a' := ?_) #[true, true, true, true, true, true, true, true, true, true, true, true, true, true, true, true, true, true, true, true, true, true, true, false, false] rfl rfl (any_of HT_.out (by kernel_rfl)) (fun _ _ _ h => h) (Or.inr ⟨by rfl, rfl⟩) ?_ ?_
                      rotate_left
                      · simp only [Act.put, List.setIfInBounds_toArray, List.set_cons_zero, List.set_cons_succ, i64_w, i32_w]
                        rfl
                      refine pure_ (i := 23) (N := some 55) (v := undef) (a' := ?_) #[true, true, true, true, true, true, true, true, true, true, true, true, true, true, true, true, true, true, true, true, true, true, true, true, false] rfl rfl (any_of HT_.out (by kernel_rfl)) (fun _ _ _ h => h) (Or.inr ⟨by rfl, rfl⟩) ?_ ?_
                      rotate_left
                      · simp only [Act.put, List.setIfInBounds_toArray, List.set_cons_zero, List.set_cons_succ, i64_w, i32_w]
                        rfl
                      refine pure_ (i := 24) (N := some 56) (v := ?_) (a' := ?_) #[true, true, true, true, true, true, true, true, true, true, true, true, true, true, true, true, true, true, true, true, true, true, true, true, true] rfl rfl (any_of HT_.out (by kernel_rfl)) (fun _ _ _ h => h) (Or.inl ⟨by rfl, ?_⟩) ?_ ?_
                      rotate_left
                      · intro w'
                        go_simp
                        with_reducible rfl
                      rotate_left
                      · simp only [Act.put, List.setIfInBounds_toArray, List.set_cons_zero, List.set_cons_succ, i64_w, i32_w]
                        rfl
                      refine done_ (done_of HT_.out (by kernel_rfl)) ?_
                      try go_wp2
                      go_meet
                      case rel => exact ⟨_, (true), (by first | rfl | (simp; done) | (simp [*]; done)), H', ⟨by have := HJ1.out; have := HK2.out; first | omega | exact Nat.le_refl _⟩, ⟨by (with_reducible repeat (first | apply Kd.R_alloc | apply Kd.R_drewN | apply Kd.R_drew)); exact HO_3.out⟩, ⟨by (with_reducible repeat (first | refine blk_drewN ?_ _ | refine blk_drew ?_ | refine blk_alloc ?_ _)); exact BK199.out⟩, ⟨by repeat (first | (with_reducible first | exact HB.out | apply below_alloc | apply pw_below_drewN | apply below_drew1 | refine below_set ?_ GE199.out) | exact HB.out)⟩⟩
                  · rw [if_neg c23] at H
                    exact absurd H (by simp)
                case rest =>
                  clear HC21
                  try clear c2
                  try clear p2
                  try clear q2
                  try clear hx2
                  try clear p6
                  try clear p20
                  try clear q20
                  try clear hx20
                  try clear c23
                  try clear c24
                  try clear c24b0
                  try clear c24b1
                  try clear c25
                  try clear c25b0
                  try clear c27
                  try clear c27b0
                  try clear c28
                  try clear c28b0
                  try clear hx207_0
                  try clear hx207_1
                  try clear hx207_2
                  try clear hx208_0
                  try clear hx208_1
                  try clear hx208_2
                  try clear hx209_0
                  try clear hx209_1
                  try clear hx209_2
                  try clear p207
                  try clear p208
                  try clear p209
                  try clear q207
                  try clear q208
                  try clear q209
                  obtain ⟨kq, x56_20, rfl, HA, HJ20, HO_3, BK199, HB⟩ := hcut
                  cases kq with
                  | zero => exact absurd HA.out (by simp [hibernaclelaw12_ExePages.j2])
                  | succ kj20 =>
                    have H := HA.out
                    clear HA
                    simp only [hibernaclelaw12_ExePages.j2] at H
                    by_cases c32 : x56_20 = true
                    · subst c32
                      have H1 : (some false) = some r := by rw [if_pos rfl] at H; exact H
                      clear H
                      have H := H1
                      clear H1
                      obtain rfl := Option.some.inj H
                      go_wp2
                      go_ret
                      exact ⟨by first | rfl | (simp [errW_none, errW_some] <;> rfl) | (simp [*, errW_none, errW_some] <;> rfl), by repeat (first | (with_reducible first | exact HB.out | apply below_alloc | apply pw_below_drewN | apply below_drew1 | refine below_set ?_ GE199.out) | exact HB.out)⟩
                    · replace c32 := Bool.eq_false_iff.mpr c32
                      subst c32
                      have H1 : (if 0 ≤ x7_2 then (if x7_2 < (t203.length : Int) then (if (rd_T33 t203 x7_2).f2 = true then (if x6_2.size + ((rd_T33 t203 x7_2).f1).size ≤ 9223372036854775807 then (hibernaclelaw12_ExePages.l0 kj20 t203 x5_2 (x6_2 ++ ((rd_T33 t203 x7_2).f1)) (wrap64 (x7_2 + 1)) l0_0 a0_1 a0_2 a0_3) else (none)) else (if x5_2.size + ((rd_T33 t203 x7_2).f1).size ≤ 9223372036854775807 then (hibernaclelaw12_ExePages.l0 kj20 t203 (x5_2 ++ ((rd_T33 t203 x7_2).f1)) x6_2 (wrap64 (x7_2 + 1)) l0_0 a0_1 a0_2 a0_3) else (none))) else (none)) else (none)) = some r := by rw [if_neg (show ¬ (false = true) by decide)] at H; exact H
                      clear H
                      have H := H1
                      clear H1
                      by_cases c33 : 0 ≤ x7_2
                      · rw [if_pos c33] at H
                        have c33b0 : decide (0 ≤ x7_2) = true := decide_eq_true c33
                        clear c33
                        by_cases c34 : x7_2 < (t203.length : Int)
                        · rw [if_pos c34] at H
                          have c34b0 : decide (x7_2 < (t203.length : Int)) = true := decide_eq_true c34
                          clear c34
                          obtain ⟨bq35, hbq35⟩ : ∃ b_ : Bool, b_ = ((rd_T33 t203 x7_2).f2) := ⟨_, rfl⟩
                          replace H : (if bq35 = true then (if x6_2.size + ((rd_T33 t203 x7_2).f1).size ≤ 9223372036854775807 then (hibernaclelaw12_ExePages.l0 kj20 t203 x5_2 (x6_2 ++ ((rd_T33 t203 x7_2).f1)) (wrap64 (x7_2 + 1)) l0_0 a0_1 a0_2 a0_3) else (none)) else (if x5_2.size + ((rd_T33 t203 x7_2).f1).size ≤ 9223372036854775807 then (hibernaclelaw12_ExePages.l0 kj20 t203 (x5_2 ++ ((rd_T33 t203 x7_2).f1)) x6_2 (wrap64 (x7_2 + 1)) l0_0 a0_1 a0_2 a0_3) else (none))) = some r := by rw [← hbq35] at H; exact H
                          have Nbq35 := Aside0.mk hbq35
                          clear hbq35
                          by_cases c36 : bq35 = true
                          · subst c36
                            have H1 : (if x6_2.size + ((rd_T33 t203 x7_2).f1).size ≤ 9223372036854775807 then (hibernaclelaw12_ExePages.l0 kj20 t203 x5_2 (x6_2 ++ ((rd_T33 t203 x7_2).f1)) (wrap64 (x7_2 + 1)) l0_0 a0_1 a0_2 a0_3) else (none)) = some r := by rw [if_pos rfl] at H; exact H
                            clear H
                            have H := H1
                            clear H1
                            by_cases c37 : x6_2.size + ((rd_T33 t203 x7_2).f1).size ≤ 9223372036854775807
                            · rw [if_pos c37] at H
                              have c37b0 := eq_true c37
                              have c37b1 : decide (x6_2.size + ((rd_T33 t203 x7_2).f1).size ≤ 9223372036854775807) = true := decide_eq_true c37
                              try have c37b2 : (9223372036854775807 < x6_2.size + ((rd_T33 t203 x7_2).f1).size) = False := eq_false (Nat.not_lt.2 c37)
                              have H' := Aside0.mk H
                              clear H
                              have p210 : 0 ≤ (x7_2 : Int) := of_decide_eq_true (by first | (with_reducible assumption) | assumption)
                              have q210 : x7_2 < (t203.length : Int) := of_decide_eq_true (by first | (with_reducible assumption) | assumption)
                              obtain ⟨ad210, e210, hx210_0, hx210_1, hx210_2⟩ := at_T33 (Kd.R_reads' HO_3.out).2.2 x7_2 p210 q210
                              (try rw [← Nbq35.out] at hx210_2)
                              cases e210
                              replace p210 := eq_true p210
                              replace q210 := eq_true q210
                              have p211 : 0 ≤ (x7_2 : Int) := of_decide_eq_true (by first | (with_reducible assumption) | assumption)
                              have q211 : x7_2 < (t203.length : Int) := of_decide_eq_true (by first | (with_reducible assumption) | assumption)
                              obtain ⟨ad211, e211, hx211_0, hx211_1, hx211_2⟩ := at_T33 (Kd.R_reads' HO_3.out).2.2 x7_2 p211 q211
                              (try rw [← Nbq35.out] at hx211_2)
                              obtain rfl : ad210 = ad211 := (by injection e211)
                              replace p211 := eq_true p211
                              replace q211 := eq_true q211
                              go_wp2
                              go_roundg kj20
                              case measure => have := HJ1.out; have := HK2.out; have := HJ20.out; omega
                              case rel => exact ⟨(x5_2), (x6_2 ++ ((rd_T33 t203 x7_2).f1)), (wrap64 (x7_2 + 1)), (by first | rfl | (simp; done) | (simp [*]; done)), (by first | rfl | (simp; done) | (simp [*]; done)), (by first | rfl | (simp; done) | (simp [*]; done)), H', ⟨by have := HJ1.out; have := HK2.out; have := HJ20.out; omega⟩, ⟨by (with_reducible repeat (first | apply Kd.R_alloc | apply Kd.R_drewN | apply Kd.R_drew)); exact HO_3.out⟩, ⟨by (with_reducible repeat (first | refine blk_drewN ?_ _ | refine blk_drew ?_ | refine blk_alloc ?_ _)); exact BK199.out⟩, ⟨by repeat (first | (with_reducible first | exact HB.out | apply below_alloc | apply pw_below_drewN | apply below_drew1 | refine below_set ?_ GE199.out) | exact HB.out)⟩⟩
                            · rw [if_neg c37] at H
                              exact absurd H (by simp)
                          · replace c36 := Bool.eq_false_iff.mpr c36
                            subst c36
                            have H1 : (if x5_2.size + ((rd_T33 t203 x7_2).f1).size ≤ 9223372036854775807 then (hibernaclelaw12_ExePages.l0 kj20 t203 (x5_2 ++ ((rd_T33 t203 x7_2).f1)) x6_2 (wrap64 (x7_2 + 1)) l0_0 a0_1 a0_2 a0_3) else (none)) = some r := by rw [if_neg (show ¬ (false = true) by decide)] at H; exact H
                            clear H
                            have H := H1
                            clear H1
                            by_cases c38 : x5_2.size + ((rd_T33 t203 x7_2).f1).size ≤ 9223372036854775807
                            · rw [if_pos c38] at H
                              have c38b0 := eq_true c38
                              have c38b1 : decide (x5_2.size + ((rd_T33 t203 x7_2).f1).size ≤ 9223372036854775807) = true := decide_eq_true c38
                              try have c38b2 : (9223372036854775807 < x5_2.size + ((rd_T33 t203 x7_2).f1).size) = False := eq_false (Nat.not_lt.2 c38)
                              have H' := Aside0.mk H
                              clear H
                              have p210 : 0 ≤ (x7_2 : Int) := of_decide_eq_true (by first | (with_reducible assumption) | assumption)
                              have q210 : x7_2 < (t203.length : Int) := of_decide_eq_true (by first | (with_reducible assumption) | assumption)
                              obtain ⟨ad210, e210, hx210_0, hx210_1, hx210_2⟩ := at_T33 (Kd.R_reads' HO_3.out).2.2 x7_2 p210 q210
                              (try rw [← Nbq35.out] at hx210_2)
                              cases e210
                              replace p210 := eq_true p210
                              replace q210 := eq_true q210
                              have p212 : 0 ≤ (x7_2 : Int) := of_decide_eq_true (by first | (with_reducible assumption) | assumption)
                              have q212 : x7_2 < (t203.length : Int) := of_decide_eq_true (by first | (with_reducible assumption) | assumption)
                              obtain ⟨ad212, e212, hx212_0, hx212_1, hx212_2⟩ := at_T33 (Kd.R_reads' HO_3.out).2.2 x7_2 p212 q212
                              (try rw [← Nbq35.out] at hx212_2)
                              obtain rfl : ad210 = ad212 := (by injection e212)
                              replace p212 := eq_true p212
                              replace q212 := eq_true q212
                              go_wp2
                              go_roundg kj20
                              case measure => have := HJ1.out; have := HK2.out; have := HJ20.out; omega
                              case rel => exact ⟨(x5_2 ++ ((rd_T33 t203 x7_2).f1)), (x6_2), (wrap64 (x7_2 + 1)), (by first | rfl | (simp; done) | (simp [*]; done)), (by first | rfl | (simp; done) | (simp [*]; done)), (by first | rfl | (simp; done) | (simp [*]; done)), H', ⟨by have := HJ1.out; have := HK2.out; have := HJ20.out; omega⟩, ⟨by (with_reducible repeat (first | apply Kd.R_alloc | apply Kd.R_drewN | apply Kd.R_drew)); exact HO_3.out⟩, ⟨by (with_reducible repeat (first | refine blk_drewN ?_ _ | refine blk_drew ?_ | refine blk_alloc ?_ _)); exact BK199.out⟩, ⟨by repeat (first | (with_reducible first | exact HB.out | apply below_alloc | apply pw_below_drewN | apply below_drew1 | refine below_set ?_ GE199.out) | exact HB.out)⟩⟩
                            · rw [if_neg c38] at H
                              exact absurd H (by simp)
                        · rw [if_neg c34] at H
                          exact absurd H (by simp)
                      · rw [if_neg c33] at H
                        exact absurd H (by simp)
              · rw [if_neg c20] at H
                have c20b0 : decide (x7_2 < (t203.length : Int)) = false := decide_eq_false c20
                clear c20
                have HC39 := Aside0.mk H
                clear H
                obtain ⟨Ao40, co40, eo40⟩ := Kd.R_slice HO_3.out
                subst eo40
                go_upto_region 15 with (fail)
                go_cut [104] (fun v104 wc => ∃ (kq : Nat) (x104_38 : Bool), v104 = .bool x104_38 ∧ Aside0 (hibernaclelaw12_ExePages.j3 kq x5_2 x6_2 x104_38 l0_0 a0_1 a0_2 a0_3 = some r) ∧ Aside0 (kq ≤ k2) ∧ Aside0 (wc.heap[gb199]? = some (.cells #[(.slice A0_0 l0_0.length c0_0), .string a0_1, .int .i64 a0_2, .int .u32 a0_3] 25 (0, 0))) ∧ Aside0 (Below w.heap.size w wc))
                case first =>
                  have H := HC39.out
                  clear HC39
                  by_cases c41 : (x5_2.size : Int) < (wrap64 (4 * (l0_0.length : Int)))
                  · rw [if_pos c41] at H
                    have c41b0 : decide ((x5_2.size : Int) < (wrap64 (4 * (l0_0.length : Int)))) = true := decide_eq_true c41
                    clear c41
                    (first | rw [c41b0] | (simp only [i64_w, i32_w]; rw [c41b0]) | skip)
                    have H' := Aside0.mk H
                    clear H
                    have hcz42_0 : wr.cell? ⟨gb199, 0, none⟩ = some (.slice A0_0 l0_0.length c0_0) := (blk_cell BK199.out 0).trans rfl
                    have hcz42_1 : wr.cell? ⟨gb199, 1, none⟩ = some (.string a0_1) := (blk_cell BK199.out 1).trans rfl
                    have hcz42_2 : wr.cell? ⟨gb199, 2, none⟩ = some (.int .i64 a0_2) := (blk_cell BK199.out 2).trans rfl
                    have hcz42_3 : wr.cell? ⟨gb199, 3, none⟩ = some (.int .u32 a0_3) := (blk_cell BK199.out 3).trans rfl
                    have hfz42_0 := blk_frozen BK199.out 0
                    have hfz42_1 := blk_frozen BK199.out 1
                    have hfz42_2 := blk_frozen BK199.out 2
                    have hfz42_3 := blk_frozen BK199.out 3
                    go_wp2
                    go_meet
                    case rel => exact ⟨_, (true), (by first | rfl | (simp; done) | (simp [*]; done)), H', ⟨by have := HJ1.out; have := HK2.out; first | omega | exact Nat.le_refl _⟩, ⟨by (with_reducible repeat (first | refine blk_drewN ?_ _ | refine blk_drew ?_ | refine blk_alloc ?_ _)); exact BK199.out⟩, ⟨by repeat (first | (with_reducible first | exact HB.out | apply below_alloc | apply pw_below_drewN | apply below_drew1 | refine below_set ?_ GE199.out) | exact HB.out)⟩⟩
                  · rw [if_neg c41] at H
                    have c41b0 : decide ((x5_2.size : Int) < (wrap64 (4 * (l0_0.length : Int)))) = false := decide_eq_false c41
                    clear c41
                    (first | rw [c41b0] | (simp only [i64_w, i32_w]; rw [c41b0]) | skip)
                    by_cases c43 : (x5_2.size : Int) ≥ (wrap64 ((wrap64 (4 * (l0_0.length : Int))) + 128))
                    · rw [if_pos c43] at H
                      have c43b0 : decide ((wrap64 ((wrap64 (4 * (l0_0.length : Int))) + 128)) ≤ (x5_2.size : Int)) = true := decide_eq_true c43
                      clear c43
                      have H' := Aside0.mk H
                      clear H
                      have hcz44_0 : wr.cell? ⟨gb199, 0, none⟩ = some (.slice A0_0 l0_0.length c0_0) := (blk_cell BK199.out 0).trans rfl
                      have hcz44_1 : wr.cell? ⟨gb199, 1, none⟩ = some (.string a0_1) := (blk_cell BK199.out 1).trans rfl
                      have hcz44_2 : wr.cell? ⟨gb199, 2, none⟩ = some (.int .i64 a0_2) := (blk_cell BK199.out 2).trans rfl
                      have hcz44_3 : wr.cell? ⟨gb199, 3, none⟩ = some (.int .u32 a0_3) := (blk_cell BK199.out 3).trans rfl
                      have hfz44_0 := blk_frozen BK199.out 0
                      have hfz44_1 := blk_frozen BK199.out 1
                      have hfz44_2 := blk_frozen BK199.out 2
                      have hfz44_3 := blk_frozen BK199.out 3
                      go_wp2
                      go_meet
                      case rel => exact ⟨_, (true), (by first | rfl | (simp; done) | (simp [*]; done)), H', ⟨by have := HJ1.out; have := HK2.out; first | omega | exact Nat.le_refl _⟩, ⟨by (with_reducible repeat (first | refine blk_drewN ?_ _ | refine blk_drew ?_ | refine blk_alloc ?_ _)); exact BK199.out⟩, ⟨by repeat (first | (with_reducible first | exact HB.out | apply below_alloc | apply pw_below_drewN | apply below_drew1 | refine below_set ?_ GE199.out) | exact HB.out)⟩⟩
                    · rw [if_neg c43] at H
                      have c43b0 : decide ((wrap64 ((wrap64 (4 * (l0_0.length : Int))) + 128)) ≤ (x5_2.size : Int)) = false := decide_eq_false c43
                      clear c43
                      have H' := Aside0.mk H
                      clear H
                      have hcz45_0 : wr.cell? ⟨gb199, 0, none⟩ = some (.slice A0_0 l0_0.length c0_0) := (blk_cell BK199.out 0).trans rfl
                      have hcz45_1 : wr.cell? ⟨gb199, 1, none⟩ = some (.string a0_1) := (blk_cell BK199.out 1).trans rfl
                      have hcz45_2 : wr.cell? ⟨gb199, 2, none⟩ = some (.int .i64 a0_2) := (blk_cell BK199.out 2).trans rfl
                      have hcz45_3 : wr.cell? ⟨gb199, 3, none⟩ = some (.int .u32 a0_3) := (blk_cell BK199.out 3).trans rfl
                      have hfz45_0 := blk_frozen BK199.out 0
                      have hfz45_1 := blk_frozen BK199.out 1
                      have hfz45_2 := blk_frozen BK199.out 2
                      have hfz45_3 := blk_frozen BK199.out 3
                      go_wp2
                      go_meet
                      case rel => exact ⟨_, (decide ((x6_2.size : Int) < (wrap64 ((wrap64 ((a0_1.size : Int) + a0_2)) + 128)))), (by first | rfl | (simp; done) | (simp [*]; done)), H', ⟨by have := HJ1.out; have := HK2.out; first | omega | exact Nat.le_refl _⟩, ⟨by (with_reducible repeat (first | refine blk_drewN ?_ _ | refine blk_drew ?_ | refine blk_alloc ?_ _)); exact BK199.out⟩, ⟨by repeat (first | (with_reducible first | exact HB.out | apply below_alloc | apply pw_below_drewN | apply below_drew1 | refine below_set ?_ GE199.out) | exact HB.out)⟩⟩
                case rest =>
                  clear HC39
                  try clear c2
                  try clear p2
                  try clear q2
                  try clear hx2
                  try clear c3
                  try clear q3
                  try clear c4
                  try clear p6
                  try clear c20
                  try clear c20b0
                  try clear p20
                  try clear q20
                  try clear hx20
                  try clear p21
                  try clear q21
                  try clear hx21
                  try clear c23
                  try clear c24
                  try clear c24b0
                  try clear c24b1
                  try clear c25
                  try clear c25b0
                  try clear c27
                  try clear c27b0
                  try clear c28
                  try clear c28b0
                  try clear c32
                  try clear c33
                  try clear c33b0
                  try clear c34
                  try clear c34b0
                  try clear q35
                  try clear c36
                  try clear c37
                  try clear c37b0
                  try clear c37b1
                  try clear c37b2
                  try clear c38
                  try clear c38b0
                  try clear c38b1
                  try clear c38b2
                  try clear c41
                  try clear c41b0
                  try clear c43
                  try clear c43b0
                  try clear hcz42_0
                  try clear hcz42_1
                  try clear hcz42_2
                  try clear hcz42_3
                  try clear hcz44_0
                  try clear hcz44_1
                  try clear hcz44_2
                  try clear hcz44_3
                  try clear hcz45_0
                  try clear hcz45_1
                  try clear hcz45_2
                  try clear hcz45_3
                  try clear hfz42_0
                  try clear hfz42_1
                  try clear hfz42_2
                  try clear hfz42_3
                  try clear hfz44_0
                  try clear hfz44_1
                  try clear hfz44_2
                  try clear hfz44_3
                  try clear hfz45_0
                  try clear hfz45_1
                  try clear hfz45_2
                  try clear hfz45_3
                  try clear hx207_0
                  try clear hx207_1
                  try clear hx207_2
                  try clear hx208_0
                  try clear hx208_1
                  try clear hx208_2
                  try clear hx209_0
                  try clear hx209_1
                  try clear hx209_2
                  try clear hx210_0
                  try clear hx210_1
                  try clear hx210_2
                  try clear hx211_0
                  try clear hx211_1
                  try clear hx211_2
                  try clear hx212_0
                  try clear hx212_1
                  try clear hx212_2
                  try clear p2
                  try clear p20
                  try clear p207
                  try clear p208
                  try clear p209
                  try clear p210
                  try clear p211
                  try clear p212
                  try clear p6
                  try clear q2
                  try clear q20
                  try clear q207
                  try clear q208
                  try clear q209
                  try clear q210
                  try clear q211
                  try clear q212
                  obtain ⟨kq, x104_38, rfl, HA, HJ38, BK199, HB⟩ := hcut
                  cases kq with
                  | zero => exact absurd HA.out (by simp [hibernaclelaw12_ExePages.j3])
                  | succ kj38 =>
                    have H := HA.out
                    clear HA
                    simp only [hibernaclelaw12_ExePages.j3] at H
                    by_cases c46 : x104_38 = true
                    · subst c46
                      have H1 : (some false) = some r := by rw [if_pos rfl] at H; exact H
                      clear H
                      have H := H1
                      clear H1
                      obtain rfl := Option.some.inj H
                      go_wp2
                      go_ret
                      exact ⟨by first | rfl | (simp [errW_none, errW_some] <;> rfl) | (simp [*, errW_none, errW_some] <;> rfl), by repeat (first | (with_reducible first | exact HB.out | apply below_alloc | apply pw_below_drewN | apply below_drew1 | refine below_set ?_ GE199.out) | exact HB.out)⟩
                    · replace c46 := Bool.eq_false_iff.mpr c46
                      subst c46
                      have H1 : (hibernaclelaw12_ExePages.l1 kj38 x5_2 x6_2 0 l0_0 a0_1 a0_2 a0_3) = some r := by rw [if_neg (show ¬ (false = true) by decide)] at H; exact H
                      clear H
                      have H := H1
                      clear H1
                      have H' := Aside0.mk H
                      clear H
                      go_wp2
                      go_loopg [8] kj38 (fun kq v8 w' => ∃ (x8_4 : Int), v8 = .int .i64 x8_4 ∧ Aside0 (hibernaclelaw12_ExePages.l1 kq x5_2 x6_2 x8_4 l0_0 a0_1 a0_2 a0_3 = some r) ∧ Aside0 (kq ≤ kj38) ∧ Aside0 (w'.heap[gb199]? = some (.cells #[(.slice A0_0 l0_0.length c0_0), .string a0_1, .int .i64 a0_2, .int .u32 a0_3] 25 (0, 0))) ∧ Aside0 (Below w.heap.size w w'))
                      case atStart => exact ⟨(0), (by first | rfl | (simp; done) | (simp [*]; done)), H', ⟨Nat.le_refl _⟩, ⟨by (with_reducible repeat (first | refine blk_drewN ?_ _ | refine blk_drew ?_ | refine blk_alloc ?_ _)); exact BK199.out⟩, ⟨by repeat (first | (with_reducible first | exact HB.out | apply below_alloc | apply pw_below_drewN | apply below_drew1 | refine below_set ?_ GE199.out) | exact HB.out)⟩⟩
                      case round =>
                        clear H'
                        try clear c2
                        try clear p2
                        try clear q2
                        try clear hx2
                        try clear c3
                        try clear q3
                        try clear c4
                        try clear p6
                        try clear c20
                        try clear c20b0
                        try clear p20
                        try clear q20
                        try clear hx20
                        try clear p21
                        try clear q21
                        try clear hx21
                        try clear c23
                        try clear c24
                        try clear c24b0
                        try clear c24b1
                        try clear c25
                        try clear c25b0
                        try clear c27
                        try clear c27b0
                        try clear c28
                        try clear c28b0
                        try clear c32
                        try clear c33
                        try clear c33b0
                        try clear c34
                        try clear c34b0
                        try clear q35
                        try clear c36
                        try clear c37
                        try clear c37b0
                        try clear c37b1
                        try clear c37b2
                        try clear c38
                        try clear c38b0
                        try clear c38b1
                        try clear c38b2
                        try clear c41
                        try clear c41b0
                        try clear c43
                        try clear c43b0
                        try clear c46
                        try clear hcz42_0
                        try clear hcz42_1
                        try clear hcz42_2
                        try clear hcz42_3
                        try clear hcz44_0
                        try clear hcz44_1
                        try clear hcz44_2
                        try clear hcz44_3
                        try clear hcz45_0
                        try clear hcz45_1
                        try clear hcz45_2
                        try clear hcz45_3
                        try clear hfz42_0
                        try clear hfz42_1
                        try clear hfz42_2
                        try clear hfz42_3
                        try clear hfz44_0
                        try clear hfz44_1
                        try clear hfz44_2
                        try clear hfz44_3
                        try clear hfz45_0
                        try clear hfz45_1
                        try clear hfz45_2
                        try clear hfz45_3
                        try clear hx207_0
                        try clear hx207_1
                        try clear hx207_2
                        try clear hx208_0
                        try clear hx208_1
                        try clear hx208_2
                        try clear hx209_0
                        try clear hx209_1
                        try clear hx209_2
                        try clear hx210_0
                        try clear hx210_1
                        try clear hx210_2
                        try clear hx211_0
                        try clear hx211_1
                        try clear hx211_2
                        try clear hx212_0
                        try clear hx212_1
                        try clear hx212_2
                        try clear p2
                        try clear p20
                        try clear p207
                        try clear p208
                        try clear p209
                        try clear p21
                        try clear p210
                        try clear p211
                        try clear p212
                        try clear p6
                        try clear q2
                        try clear q20
                        try clear q207
                        try clear q208
                        try clear q209
                        try clear q21
                        try clear q210
                        try clear q211
                        try clear q212
                        try clear q3
                        try clear q35
                        obtain ⟨x8_4, rfl, HA, HK4, BK199, HB⟩ := hrel
                        cases gk with
                        | zero => exact absurd HA.out (by simp [hibernaclelaw12_ExePages.l1])
                        | succ k4 =>
                          have H := HA.out
                          clear HA
                          simp only [hibernaclelaw12_ExePages.l1] at H
                          by_cases c47 : x8_4 < (l0_0.length : Int)
                          · rw [if_pos c47] at H
                            have c47b0 : decide (x8_4 < (l0_0.length : Int)) = true := decide_eq_true c47
                            clear c47
                            obtain ⟨ji48, hji48⟩ : ∃ j_ : Int, (wrap64 (4 * x8_4)) = j_ := ⟨_, rfl⟩
                            replace H : (if 0 ≤ (ji48) then (if (ji48) ≤ (wrap64 ((ji48) + 4)) then (if (wrap64 ((ji48) + 4)) ≤ (x5_2.size : Int) then ((num_Get.f k4 (x5_2.extract ((ji48) : Int).toNat ((wrap64 ((ji48) + 4)) : Int).toNat)).bind fun t213 => (if 0 ≤ x8_4 then (if t213 = (IntKind.u64.wrap (rd l0_0 x8_4)) then (hibernaclelaw12_ExePages.l1 k4 x5_2 x6_2 (wrap64 (x8_4 + 1)) l0_0 a0_1 a0_2 a0_3) else (some false)) else (none))) else (none)) else (none)) else (none)) = some r := by first | (rw [hji48] at H; exact H) | (simp only [hji48] at H ⊢; exact H)
                            have hji48w : (IntKind.i64.wrap (4 * x8_4)) = ji48 := (i64_w _).trans hji48
                            by_cases c49 : 0 ≤ (ji48)
                            · rw [if_pos c49] at H
                              have c49b0 := eq_true c49
                              have c49b1 : decide (0 ≤ (ji48)) = true := decide_eq_true c49
                              clear c49
                              by_cases c50 : (ji48) ≤ (wrap64 ((ji48) + 4))
                              · rw [if_pos c50] at H
                                have c50b0 := eq_true c50
                                have c50b1 : decide ((ji48) ≤ (wrap64 ((ji48) + 4))) = true := decide_eq_true c50
                                by_cases c51 : (wrap64 ((ji48) + 4)) ≤ (x5_2.size : Int)
                                · rw [if_pos c51] at H
                                  have c51b0 := eq_true c51
                                  have c51b1 : decide ((wrap64 ((ji48) + 4)) ≤ (x5_2.size : Int)) = true := decide_eq_true c51
                                  replace H := Option.bind_eq_some_iff.mp H
                                  obtain ⟨t213, A520, H⟩ := H
                                  replace H : (if 0 ≤ x8_4 then (if t213 = (IntKind.u64.wrap (rd l0_0 x8_4)) then (hibernaclelaw12_ExePages.l1 k4 x5_2 x6_2 (wrap64 (x8_4 + 1)) l0_0 a0_1 a0_2 a0_3) else (some false)) else (none)) = some r := H
                                  have A52 := Aside0.mk A520
                                  clear A520
                                  by_cases c53 : 0 ≤ x8_4
                                  · rw [if_pos c53] at H
                                    have c53b0 : decide (0 ≤ x8_4) = true := decide_eq_true c53
                                    clear c53
                                    by_cases c54 : t213 = (IntKind.u64.wrap (rd l0_0 x8_4))
                                    · rw [if_pos c54] at H
                                      have c54b0 : (t213 == (IntKind.u64.wrap (rd l0_0 x8_4))) = true := beq_iff_eq.mpr c54
                                      have c54b1 : (t213 != (IntKind.u64.wrap (rd l0_0 x8_4))) = false := bne_eq_false_iff_eq.mpr c54
                                      clear c54
                                      have H' := Aside0.mk H
                                      clear H
                                      have hcz55_0 : wr.cell? ⟨gb199, 0, none⟩ = some (.slice A0_0 l0_0.length c0_0) := (blk_cell BK199.out 0).trans rfl
                                      have hcz55_1 : wr.cell? ⟨gb199, 1, none⟩ = some (.string a0_1) := (blk_cell BK199.out 1).trans rfl
                                      have hcz55_2 : wr.cell? ⟨gb199, 2, none⟩ = some (.int .i64 a0_2) := (blk_cell BK199.out 2).trans rfl
                                      have hcz55_3 : wr.cell? ⟨gb199, 3, none⟩ = some (.int .u32 a0_3) := (blk_cell BK199.out 3).trans rfl
                                      have hfz55_0 := blk_frozen BK199.out 0
                                      have hfz55_1 := blk_frozen BK199.out 1
                                      have hfz55_2 := blk_frozen BK199.out 2
                                      have hfz55_3 := blk_frozen BK199.out 3
                                      try go_wp2
                                      have n0_ := Aside0.mk (blk_drew BK199.out)
                                      have n1_ := Aside0.mk (below_drew1 HB.out)
                                      clear BK199
                                      clear HB
                                      have BK199 := n0_
                                      have HB := n1_
                                      clear n0_ n1_
                                      have p214 : 0 ≤ (x8_4 : Int) := of_decide_eq_true (by first | (with_reducible assumption) | assumption)
                                      have q214 : x8_4 < (l0_0.length : Int) := of_decide_eq_true (by first | (with_reducible assumption) | assumption)
                                      obtain ⟨ad214, e214, hx214_0⟩ := Kd.at_int HR0_0.out x8_4 p214 q214
                                      have hw214_0 := hx214_0
                                      cases e214
                                      replace hx214_0 := (HB.out.cell (World.block_lt_of_cell? w _ hx214_0)).trans hx214_0
                                      replace p214 := eq_true p214
                                      replace q214 := eq_true q214
                                      refine start_ (n := 15) (S := fun w' => w'.cell? ⟨gb199, 0, none⟩ = some (.slice (some ad214) l0_0.length c0_0) ∧ w'.cell? ⟨gb199, 1, none⟩ = some (.string a0_1) ∧ w'.cell? ⟨gb199, 2, none⟩ = some (.int .i64 a0_2) ∧ w'.cell? ⟨gb199, 3, none⟩ = some (.int .u32 a0_3) ∧ w'.cell? (ad214.add (x8_4).toNat) = some (.int .u32 (rd l0_0 x8_4))) (ds := []) #[false, false, false, false, false, false, false, false, false, false, false, false, false, false, false] (by kernel_rfl) rfl rfl ⟨(blk_cell BK199.out 0).trans rfl, (blk_cell BK199.out 1).trans rfl, (blk_cell BK199.out 2).trans rfl, (blk_cell BK199.out 3).trans rfl, ((HB.out.cell (World.block_lt_of_cell? w _ hw214_0)).trans hw214_0)⟩ (fun hHeld => ?_); refine with_tabW hibernaclelaw12_ExePages.tab20 hibernaclelaw12_ExePages.bits20 (fun HT_ HW_ => ?_)
                                      generalize wr.drew = w56 at BK199 HB hx214_0 hHeld ⊢
                                      refine pure_ (i := 0) (N := some 112) (v := ?_) (a' := ?_) #[true, false, false, false, false, false, false, false, false, false, false, false, false, false, false] rfl rfl (any_of HT_.out (by kernel_rfl)) (fun _ _ _ h => h) (Or.inl ⟨by rfl, ?_⟩) ?_ ?_
                                      rotate_left
                                      · intro w'
                                        go_simp
                                        with_reducible rfl
                                      rotate_left
                                      · simp only [Act.put, List.setIfInBounds_toArray, List.set_cons_zero, List.set_cons_succ, i64_w, i32_w]
                                        rfl
                                      refine pure_ (i := 1) (N := some 113) (v := ?_) (a' := ?_) #[true, true, false, false, false, false, false, false, false, false, false, false, false, false, false] rfl rfl (any_of HT_.out (by kernel_rfl)) (fun _ _ _ h => h) (Or.inl ⟨by rfl, ?_⟩) ?_ ?_
                                      rotate_left
                                      · intro w'
                                        go_simp
                                        with_reducible rfl
                                      rotate_left
                                      · simp only [Act.put, List.setIfInBounds_toArray, List.set_cons_zero, List.set_cons_succ, i64_w, i32_w]
                                        rfl
                                      refine pure_ (i := 2) (N := some 114) (v := ?_) (a' := ?_) #[true, true, true, false, false, false, false, false, false, false, false, false, false, false, false] rfl rfl (any_of HT_.out (by kernel_rfl)) (fun _ _ _ h => h) (Or.inl ⟨by rfl, ?_⟩) ?_ ?_
                                      rotate_left
                                      · intro w'
                                        go_simp
                                        with_reducible rfl
                                      rotate_left
                                      · simp only [Act.put, List.setIfInBounds_toArray, List.set_cons_zero, List.set_cons_succ, i64_w, i32_w]
                                        rfl
                                      refine pure_ (i := 3) (N := some 115) (v := ?_) (a' := ?_) #[true, true, true, true, false, false, false, false, false, false, false, false, false, false, false] rfl rfl (any_of HT_.out (by kernel_rfl)) (fun _ _ _ h => h) (Or.inl ⟨by rfl, ?_⟩) ?_ ?_
                                      rotate_left
                                      · intro w'
                                        go_simp
                                        with_reducible rfl
                                      rotate_left
                                      · simp only [Act.put, List.setIfInBounds_toArray, List.set_cons_zero, List.set_cons_succ, i64_w, i32_w]
                                        rfl
                                      refine pure_ (i := 4) (N := some 116) (v := ?_) (a' := ?_) #[true, true, true, true, true, false, false, false, false, false, false, false, false, false, false] rfl rfl (any_of HT_.out (by kernel_rfl)) (fun _ _ _ h => h) (Or.inl ⟨by rfl, ?_⟩) ?_ ?_
                                      rotate_left
                                      · intro w'
                                        go_simp
                                        with_reducible rfl
                                      rotate_left
                                      · simp only [Act.put, List.setIfInBounds_toArray, List.set_cons_zero, List.set_cons_succ, i64_w, i32_w]
                                        rfl
                                      refine pure_ (i := 5) (N := some 117) (v := ?_) (a' := ?_) #[true, true, true, true, true, true, false, false, false, false, false, false, false, false, false] rfl rfl (any_of HT_.out (by kernel_rfl)) (fun _ _ _ h => h) (Or.inl ⟨by rfl, ?_⟩) ?_ ?_
                                      rotate_left
                                      · intro w'
                                        go_simp
                                        with_reducible rfl
                                      rotate_left
                                      · simp only [Act.put, List.setIfInBounds_toArray, List.set_cons_zero, List.set_cons_succ, i64_w, i32_w]
                                        rfl
                                      refine pure_ (i := 6) (N := some 118) (v := ?_) (a' := ?_) #[true, true, true, true, true, true, true, false, false, false, false, false, false, false, false] rfl rfl (any_of HT_.out (by kernel_rfl)) (fun _ _ _ h => h) (Or.inl ⟨by rfl, ?_⟩) ?_ ?_
                                      rotate_left
                                      · intro w'
                                        go_simp
                                        with_reducible rfl
                                      rotate_left
                                      · simp only [Act.put, List.setIfInBounds_toArray, List.set_cons_zero, List.set_cons_succ, i64_w, i32_w]
                                        rfl
                                      refine pure_ (i := 8) (N := some 120) (v := ?_) (a' := ?_) #[true, true, true, true, true, true, true, false, true, false, false, false, false, false, false] rfl rfl (any_of HT_.out (by kernel_rfl)) (fun _ _ _ h => h) (Or.inl ⟨by rfl, ?_⟩) ?_ ?_
                                      rotate_left
                                      · intro w'
                                        go_simp
                                        with_reducible rfl
                                      rotate_left
                                      · simp only [Act.put, List.setIfInBounds_toArray, List.set_cons_zero, List.set_cons_succ, i64_w, i32_w]
                                        rfl
                                      refine pure_ (i := 10) (N := some 122) (v := ?_) (a' := ?_) #[true, true, true, true, true, true, true, false, true, false, true, false, false, false, false] rfl rfl (any_of HT_.out (by kernel_rfl)) (fun _ _ _ h => h) (Or.inl ⟨by rfl, ?_⟩) ?_ ?_
                                      rotate_left
                                      · intro w'
                                        go_simp
                                        with_reducible rfl
                                      rotate_left
                                      · simp only [Act.put, List.setIfInBounds_toArray, List.set_cons_zero, List.set_cons_succ, i64_w, i32_w]
                                        rfl
                                      refine take_ (i := 9) (N := some 121) (v := ?_) (a' := ?_) #[true, true, true, true, true, true, true, false, true, true, true, false, false, false, false] rfl rfl (take_ofW HT_.out HW_.out (by kernel_rfl)) (fun _ _ _ h => h) (Or.inl ⟨by rfl, ?_⟩) hHeld ?_ ?_
                                      rotate_left
                                      · rintro w' ⟨s0, s1, s2, s3, s4⟩
                                        go_simp
                                        with_reducible rfl
                                      rotate_left
                                      · simp only [Act.put, List.setIfInBounds_toArray, List.set_cons_zero, List.set_cons_succ, i64_w, i32_w]
                                        rfl
                                      refine pure_ (i := 11) (N := some 123) (v := ?_) (a' := ?_) #[true, true, true, true, true, true, true, false, true, true, true, true, false, false, false] rfl rfl (any_of HT_.out (by kernel_rfl)) (fun _ _ _ h => h) (Or.inl ⟨by rfl, ?_⟩) ?_ ?_
                                      rotate_left
                                      · intro w'
                                        go_simp
                                        with_reducible rfl
                                      rotate_left
                                      · simp only [Act.put, List.setIfInBounds_toArray, List.set_cons_zero, List.set_cons_succ, i64_w, i32_w]
                                        rfl
                                      refine take_ (i := 12) (N := some 124) (v := ?_) (a' := ?_) #[true, true, true, true, true, true, true, false, true, true, true, true, true, false, false] rfl rfl (take_ofW HT_.out HW_.out (by kernel_rfl)) (fun _ _ _ h => h) (Or.inl ⟨by rfl, ?_⟩) hHeld ?_ ?_
                                      rotate_left
                                      · rintro w' ⟨s0, s1, s2, s3, s4⟩
                                        go_simp
                                        with_reducible rfl
                                      rotate_left
                                      · simp only [Act.put, List.setIfInBounds_toArray, List.set_cons_zero, List.set_cons_succ, i64_w, i32_w]
                                        rfl
                                      refine pure_ (i := 13) (N := some 125) (v := ?_) (a' := ?_) #[true, true, true, true, true, true, true, false, true, true, true, true, true, true, false] rfl rfl (any_of HT_.out (by kernel_rfl)) (fun _ _ _ h => h) (Or.inl ⟨by rfl, ?_⟩) ?_ ?_
                                      rotate_left
                                      · intro w'
                                        go_simp
                                        with_reducible rfl
                                      rotate_left
                                      · simp only [Act.put, List.setIfInBounds_toArray, List.set_cons_zero, List.set_cons_succ, i64_w, i32_w]
                                        rfl
                                      refine one_ (i := 7) (N := some 119) #[true, true, true, true, true, true, true, true, true, true, true, true, true, true, false] rfl rfl (one_of HT_.out (by kernel_rfl)) (by decide) (fun K hK => ?_)
                                      refine goes_ Try.func14 (by kernel_rfl) rfl #[.string (x5_2.extract ((ji48) : Int).toNat ((wrap64 ((ji48) + 4)) : Int).toNat)] (by rfl) rfl rfl (by (try simp only [List.map_toArray, List.map_cons, List.map_nil]); first | done | (simp only [hji48]; rfl) | rfl | (simp only [List.length_drop, List.length_take]; rfl)) ?_
                                      with_reducible refine (num_Get.calls k4 (x5_2.extract ((ji48) : Int).toNat ((wrap64 ((ji48) + 4)) : Int).toNat) t213 _ A52.out).mono ?_
                                      rintro e w57 ⟨rfl, hb⟩
                                      refine ⟨_, rfl, ?_⟩
                                      have n0_ := Aside0.mk (blk_below (g := gb199) (o := .cells #[.slice (some ad214) l0_0.length c0_0, .string a0_1, .int .i64 a0_2, .int .u32 a0_3] 25 (0, 0)) (by (with_reducible repeat (first | refine blk_drewN ?_ _ | refine blk_drew ?_ | refine blk_alloc ?_ _)); exact BK199.out) hb)
                                      have n1_ := Aside0.mk (below_step (by repeat (first | (with_reducible first | exact HB.out | apply below_alloc | apply pw_below_drewN | apply below_drew1 | refine below_set ?_ GE199.out) | exact HB.out)) hb)
                                      clear BK199
                                      clear HB
                                      have BK199 := n0_
                                      have HB := n1_
                                      clear n0_ n1_
                                      (try clear hb)
                                      (try clear hb2)
                                      (try clear hk)
                                      (try clear hi)
                                      refine hK.out _ _ ⟨(blk_cell BK199.out 0).trans rfl, (blk_cell BK199.out 1).trans rfl, (blk_cell BK199.out 2).trans rfl, (blk_cell BK199.out 3).trans rfl, ((HB.out.cell (World.block_lt_of_cell? w _ hw214_0)).trans hw214_0)⟩ (fun hHeld => ?_)
                                      clear hK K
                                      refine norm_ (a' := ?_) ?_ ?_
                                      rotate_left
                                      · show Act.put _ (some 119) _ = _
                                        simp only [Act.put, List.setIfInBounds_toArray, List.set_cons_zero, List.set_cons_succ, i64_w, i32_w]
                                        rfl
                                      refine pure_ (i := 14) (N := some 126) (v := ?_) (a' := ?_) #[true, true, true, true, true, true, true, true, true, true, true, true, true, true, true] rfl rfl (any_of HT_.out (by kernel_rfl)) (fun _ _ _ h => h) (Or.inl ⟨by rfl, ?_⟩) ?_ ?_
                                      rotate_left
                                      · intro w'
                                        go_simp
                                        with_reducible rfl
                                      rotate_left
                                      · simp only [Act.put, List.setIfInBounds_toArray, List.set_cons_zero, List.set_cons_succ, i64_w, i32_w]
                                        rfl
                                      refine done_ (done_of HT_.out (by kernel_rfl)) ?_
                                      try go_wp2
                                      go_roundg k4
                                      case measure => have := HJ1.out; have := HK2.out; have := HJ38.out; have := HK4.out; omega
                                      case rel => exact ⟨(wrap64 (x8_4 + 1)), (by first | rfl | (simp; done) | (simp [*]; done)), H', ⟨by have := HJ1.out; have := HK2.out; have := HJ38.out; have := HK4.out; omega⟩, ⟨by (with_reducible repeat (first | refine blk_drewN ?_ _ | refine blk_drew ?_ | refine blk_alloc ?_ _)); exact BK199.out⟩, ⟨by repeat (first | (with_reducible first | exact HB.out | apply below_alloc | apply pw_below_drewN | apply below_drew1 | refine below_set ?_ GE199.out) | exact HB.out)⟩⟩
                                    · rw [if_neg c54] at H
                                      have c54b0 : (t213 == (IntKind.u64.wrap (rd l0_0 x8_4))) = false := beq_eq_false_iff_ne.mpr c54
                                      have c54b1 : (t213 != (IntKind.u64.wrap (rd l0_0 x8_4))) = true := bne_iff_ne.mpr c54
                                      obtain rfl := Option.some.inj H
                                      have hcz58_0 : wr.cell? ⟨gb199, 0, none⟩ = some (.slice A0_0 l0_0.length c0_0) := (blk_cell BK199.out 0).trans rfl
                                      have hcz58_1 : wr.cell? ⟨gb199, 1, none⟩ = some (.string a0_1) := (blk_cell BK199.out 1).trans rfl
                                      have hcz58_2 : wr.cell? ⟨gb199, 2, none⟩ = some (.int .i64 a0_2) := (blk_cell BK199.out 2).trans rfl
                                      have hcz58_3 : wr.cell? ⟨gb199, 3, none⟩ = some (.int .u32 a0_3) := (blk_cell BK199.out 3).trans rfl
                                      have hfz58_0 := blk_frozen BK199.out 0
                                      have hfz58_1 := blk_frozen BK199.out 1
                                      have hfz58_2 := blk_frozen BK199.out 2
                                      have hfz58_3 := blk_frozen BK199.out 3
                                      try go_wp2
                                      have n0_ := Aside0.mk (blk_drew BK199.out)
                                      have n1_ := Aside0.mk (below_drew1 HB.out)
                                      clear BK199
                                      clear HB
                                      have BK199 := n0_
                                      have HB := n1_
                                      clear n0_ n1_
                                      have p214 : 0 ≤ (x8_4 : Int) := of_decide_eq_true (by first | (with_reducible assumption) | assumption)
                                      have q214 : x8_4 < (l0_0.length : Int) := of_decide_eq_true (by first | (with_reducible assumption) | assumption)
                                      obtain ⟨ad214, e214, hx214_0⟩ := Kd.at_int HR0_0.out x8_4 p214 q214
                                      have hw214_0 := hx214_0
                                      cases e214
                                      replace hx214_0 := (HB.out.cell (World.block_lt_of_cell? w _ hx214_0)).trans hx214_0
                                      replace p214 := eq_true p214
                                      replace q214 := eq_true q214
                                      refine start_ (n := 15) (S := fun w' => w'.cell? ⟨gb199, 0, none⟩ = some (.slice (some ad214) l0_0.length c0_0) ∧ w'.cell? ⟨gb199, 1, none⟩ = some (.string a0_1) ∧ w'.cell? ⟨gb199, 2, none⟩ = some (.int .i64 a0_2) ∧ w'.cell? ⟨gb199, 3, none⟩ = some (.int .u32 a0_3) ∧ w'.cell? (ad214.add (x8_4).toNat) = some (.int .u32 (rd l0_0 x8_4))) (ds := []) #[false, false, false, false, false, false, false, false, false, false, false, false, false, false, false] (by kernel_rfl) rfl rfl ⟨(blk_cell BK199.out 0).trans rfl, (blk_cell BK199.out 1).trans rfl, (blk_cell BK199.out 2).trans rfl, (blk_cell BK199.out 3).trans rfl, ((HB.out.cell (World.block_lt_of_cell? w _ hw214_0)).trans hw214_0)⟩ (fun hHeld => ?_); refine with_tabW hibernaclelaw12_ExePages.tab20 hibernaclelaw12_ExePages.bits20 (fun HT_ HW_ => ?_)
                                      generalize wr.drew = w59 at BK199 HB hx214_0 hHeld ⊢
                                      refine pure_ (i := 0) (N := some 112) (v := ?_) (a' := ?_) #[true, false, false, false, false, false, false, false, false, false, false, false, false, false, false] rfl rfl (any_of HT_.out (by kernel_rfl)) (fun _ _ _ h => h) (Or.inl ⟨by rfl, ?_⟩) ?_ ?_
                                      rotate_left
                                      · intro w'
                                        go_simp
                                        with_reducible rfl
                                      rotate_left
                                      · simp only [Act.put, List.setIfInBounds_toArray, List.set_cons_zero, List.set_cons_succ, i64_w, i32_w]
                                        rfl
                                      refine pure_ (i := 1) (N := some 113) (v := ?_) (a' := ?_) #[true, true, false, false, false, false, false, false, false, false, false, false, false, false, false] rfl rfl (any_of HT_.out (by kernel_rfl)) (fun _ _ _ h => h) (Or.inl ⟨by rfl, ?_⟩) ?_ ?_
                                      rotate_left
                                      · intro w'
                                        go_simp
                                        with_reducible rfl
                                      rotate_left
                                      · simp only [Act.put, List.setIfInBounds_toArray, List.set_cons_zero, List.set_cons_succ, i64_w, i32_w]
                                        rfl
                                      refine pure_ (i := 2) (N := some 114) (v := ?_) (a' := ?_) #[true, true, true, false, false, false, false, false, false, false, false, false, false, false, false] rfl rfl (any_of HT_.out (by kernel_rfl)) (fun _ _ _ h => h) (Or.inl ⟨by rfl, ?_⟩) ?_ ?_
                                      rotate_left
                                      · intro w'
                                        go_simp
                                        with_reducible rfl
                                      rotate_left
                                      · simp only [Act.put, List.setIfInBounds_toArray, List.set_cons_zero, List.set_cons_succ, i64_w, i32_w]
                                        rfl
                                      refine pure_ (i := 3) (N := some 115) (v := ?_) (a' := ?_) #[true, true, true, true, false, false, false, false, false, false, false, false, false, false, false] rfl rfl (any_of HT_.out (by kernel_rfl)) (fun _ _ _ h => h) (Or.inl ⟨by rfl, ?_⟩) ?_ ?_
                                      rotate_left
                                      · intro w'
                                        go_simp
                                        with_reducible rfl
                                      rotate_left
                                      · simp only [Act.put, List.setIfInBounds_toArray, List.set_cons_zero, List.set_cons_succ, i64_w, i32_w]
                                        rfl
                                      refine pure_ (i := 4) (N := some 116) (v := ?_) (a' := ?_) #[true, true, true, true, true, false, false, false, false, false, false, false, false, false, false] rfl rfl (any_of HT_.out (by kernel_rfl)) (fun _ _ _ h => h) (Or.inl ⟨by rfl, ?_⟩) ?_ ?_
                                      rotate_left
                                      · intro w'
                                        go_simp
                                        with_reducible rfl
                                      rotate_left
                                      · simp only [Act.put, List.setIfInBounds_toArray, List.set_cons_zero, List.set_cons_succ, i64_w, i32_w]
                                        rfl
                                      refine pure_ (i := 5) (N := some 117) (v := ?_) (a' := ?_) #[true, true, true, true, true, true, false, false, false, false, false, false, false, false, false] rfl rfl (any_of HT_.out (by kernel_rfl)) (fun _ _ _ h => h) (Or.inl ⟨by rfl, ?_⟩) ?_ ?_
                                      rotate_left
                                      · intro w'
                                        go_simp
                                        with_reducible rfl
                                      rotate_left
                                      · simp only [Act.put, List.setIfInBounds_toArray, List.set_cons_zero, List.set_cons_succ, i64_w, i32_w]
                                        rfl
                                      refine pure_ (i := 6) (N := some 118) (v := ?_) (a' := ?_) #[true, true, true, true, true, true, true, false, false, false, false, false, false, false, false] rfl rfl (any_of HT_.out (by kernel_rfl)) (fun _ _ _ h => h) (Or.inl ⟨by rfl, ?_⟩) ?_ ?_
                                      rotate_left
                                      · intro w'
                                        go_simp
                                        with_reducible rfl
                                      rotate_left
                                      · simp only [Act.put, List.setIfInBounds_toArray, List.set_cons_zero, List.set_cons_succ, i64_w, i32_w]
                                        rfl
                                      refine pure_ (i := 8) (N := some 120) (v := ?_) (a' := ?_) #[true, true, true, true, true, true, true, false, true, false, false, false, false, false, false] rfl rfl (any_of HT_.out (by kernel_rfl)) (fun _ _ _ h => h) (Or.inl ⟨by rfl, ?_⟩) ?_ ?_
                                      rotate_left
                                      · intro w'
                                        go_simp
                                        with_reducible rfl
                                      rotate_left
                                      · simp only [Act.put, List.setIfInBounds_toArray, List.set_cons_zero, List.set_cons_succ, i64_w, i32_w]
                                        rfl
                                      refine pure_ (i := 10) (N := some 122) (v := ?_) (a' := ?_) #[true, true, true, true, true, true, true, false, true, false, true, false, false, false, false] rfl rfl (any_of HT_.out (by kernel_rfl)) (fun _ _ _ h => h) (Or.inl ⟨by rfl, ?_⟩) ?_ ?_
                                      rotate_left
                                      · intro w'
                                        go_simp
                                        with_reducible rfl
                                      rotate_left
                                      · simp only [Act.put, List.setIfInBounds_toArray, List.set_cons_zero, List.set_cons_succ, i64_w, i32_w]
                                        rfl
                                      refine take_ (i := 9) (N := some 121) (v := ?_) (a' := ?_) #[true, true, true, true, true, true, true, false, true, true, true, false, false, false, false] rfl rfl (take_ofW HT_.out HW_.out (by kernel_rfl)) (fun _ _ _ h => h) (Or.inl ⟨by rfl, ?_⟩) hHeld ?_ ?_
                                      rotate_left
                                      · rintro w' ⟨s0, s1, s2, s3, s4⟩
                                        go_simp
                                        with_reducible rfl
                                      rotate_left
                                      · simp only [Act.put, List.setIfInBounds_toArray, List.set_cons_zero, List.set_cons_succ, i64_w, i32_w]
                                        rfl
                                      refine pure_ (i := 11) (N := some 123) (v := ?_) (a' := ?_) #[true, true, true, true, true, true, true, false, true, true, true, true, false, false, false] rfl rfl (any_of HT_.out (by kernel_rfl)) (fun _ _ _ h => h) (Or.inl ⟨by rfl, ?_⟩) ?_ ?_
                                      rotate_left
                                      · intro w'
                                        go_simp
                                        with_reducible rfl
                                      rotate_left
                                      · simp only [Act.put, List.setIfInBounds_toArray, List.set_cons_zero, List.set_cons_succ, i64_w, i32_w]
                                        rfl
                                      refine take_ (i := 12) (N := some 124) (v := ?_) (a' := ?_) #[true, true, true, true, true, true, true, false, true, true, true, true, true, false, false] rfl rfl (take_ofW HT_.out HW_.out (by kernel_rfl)) (fun _ _ _ h => h) (Or.inl ⟨by rfl, ?_⟩) hHeld ?_ ?_
                                      rotate_left
                                      · rintro w' ⟨s0, s1, s2, s3, s4⟩
                                        go_simp
                                        with_reducible rfl
                                      rotate_left
                                      · simp only [Act.put, List.setIfInBounds_toArray, List.set_cons_zero, List.set_cons_succ, i64_w, i32_w]
                                        rfl
                                      refine pure_ (i := 13) (N := some 125) (v := ?_) (a' := ?_) #[true, true, true, true, true, true, true, false, true, true, true, true, true, true, false] rfl rfl (any_of HT_.out (by kernel_rfl)) (fun _ _ _ h => h) (Or.inl ⟨by rfl, ?_⟩) ?_ ?_
                                      rotate_left
                                      · intro w'
                                        go_simp
                                        with_reducible rfl
                                      rotate_left
                                      · simp only [Act.put, List.setIfInBounds_toArray, List.set_cons_zero, List.set_cons_succ, i64_w, i32_w]
                                        rfl
                                      refine one_ (i := 7) (N := some 119) #[true, true, true, true, true, true, true, true, true, true, true, true, true, true, false] rfl rfl (one_of HT_.out (by kernel_rfl)) (by decide) (fun K hK => ?_)
                                      refine goes_ Try.func14 (by kernel_rfl) rfl #[.string (x5_2.extract ((ji48) : Int).toNat ((wrap64 ((ji48) + 4)) : Int).toNat)] (by rfl) rfl rfl (by (try simp only [List.map_toArray, List.map_cons, List.map_nil]); first | done | (simp only [hji48]; rfl) | rfl | (simp only [List.length_drop, List.length_take]; rfl)) ?_
                                      with_reducible refine (num_Get.calls k4 (x5_2.extract ((ji48) : Int).toNat ((wrap64 ((ji48) + 4)) : Int).toNat) t213 _ A52.out).mono ?_
                                      rintro e w60 ⟨rfl, hb⟩
                                      refine ⟨_, rfl, ?_⟩
                                      have n0_ := Aside0.mk (blk_below (g := gb199) (o := .cells #[.slice (some ad214) l0_0.length c0_0, .string a0_1, .int .i64 a0_2, .int .u32 a0_3] 25 (0, 0)) (by (with_reducible repeat (first | refine blk_drewN ?_ _ | refine blk_drew ?_ | refine blk_alloc ?_ _)); exact BK199.out) hb)
                                      have n1_ := Aside0.mk (below_step (by repeat (first | (with_reducible first | exact HB.out | apply below_alloc | apply pw_below_drewN | apply below_drew1 | refine below_set ?_ GE199.out) | exact HB.out)) hb)
                                      clear BK199
                                      clear HB
                                      have BK199 := n0_
                                      have HB := n1_
                                      clear n0_ n1_
                                      (try clear hb)
                                      (try clear hb2)
                                      (try clear hk)
                                      (try clear hi)
                                      refine hK.out _ _ ⟨(blk_cell BK199.out 0).trans rfl, (blk_cell BK199.out 1).trans rfl, (blk_cell BK199.out 2).trans rfl, (blk_cell BK199.out 3).trans rfl, ((HB.out.cell (World.block_lt_of_cell? w _ hw214_0)).trans hw214_0)⟩ (fun hHeld => ?_)
                                      clear hK K
                                      refine norm_ (a' := ?_) ?_ ?_
                                      rotate_left
                                      · show Act.put _ (some 119) _ = _
                                        simp only [Act.put, List.setIfInBounds_toArray, List.set_cons_zero, List.set_cons_succ, i64_w, i32_w]
                                        rfl
                                      refine pure_ (i := 14) (N := some 126) (v := ?_) (a' := ?_) #[true, true, true, true, true, true, true, true, true, true, true, true, true, true, true] rfl rfl (any_of HT_.out (by kernel_rfl)) (fun _ _ _ h => h) (Or.inl ⟨by rfl, ?_⟩) ?_ ?_
                                      rotate_left
                                      · intro w'
                                        go_simp
                                        with_reducible rfl
                                      rotate_left
                                      · simp only [Act.put, List.setIfInBounds_toArray, List.set_cons_zero, List.set_cons_succ, i64_w, i32_w]
                                        rfl
                                      refine done_ (done_of HT_.out (by kernel_rfl)) ?_
                                      try go_wp2
                                      go_ret
                                      exact ⟨by first | rfl | (simp [errW_none, errW_some] <;> rfl) | (simp only [← hji48]; first | rfl | (simp [errW_none, errW_some] <;> rfl)) | (simp [*, errW_none, errW_some] <;> rfl), by repeat (first | (with_reducible first | exact HB.out | apply below_alloc | apply pw_below_drewN | apply below_drew1 | refine below_set ?_ GE199.out) | exact HB.out)⟩
                                  · rw [if_neg c53] at H
                                    exact absurd H (by simp)
                                · rw [if_neg c51] at H
                                  exact absurd H (by simp)
                              · rw [if_neg c50] at H
                                exact absurd H (by simp)
                            · rw [if_neg c49] at H
                              exact absurd H (by simp)
                          · rw [if_neg c47] at H
                            have c47b0 : decide (x8_4 < (l0_0.length : Int)) = false := decide_eq_false c47
                            clear c47
                            by_cases c61 : 0 ≤ (a0_1.size : Int)
                            · rw [if_pos c61] at H
                              have c61b0 := eq_true c61
                              have c61b1 : decide (0 ≤ (a0_1.size : Int)) = true := decide_eq_true c61
                              clear c61
                              by_cases c62 : (a0_1.size : Int) ≤ (x6_2.size : Int)
                              · rw [if_pos c62] at H
                                have c62b0 := eq_true c62
                                have c62b1 : decide ((a0_1.size : Int) ≤ (x6_2.size : Int)) = true := decide_eq_true c62
                                clear c62
                                by_cases c63 : (x6_2.extract 0 ((a0_1.size : Int) : Int).toNat).toList = a0_1.toList
                                · rw [if_pos c63] at H
                                  have c63b0 : ((x6_2.extract 0 ((a0_1.size : Int) : Int).toNat).toList == a0_1.toList) = true := beq_iff_eq.mpr c63
                                  have c63b1 : ((x6_2.extract 0 ((a0_1.size : Int) : Int).toNat).toList != a0_1.toList) = false := bne_eq_false_iff_eq.mpr c63
                                  try (have c63b9 := c63b0; simp only [Int.toNat_natCast] at c63b9)
                                  try (have c63b10 := c63b1; simp only [Int.toNat_natCast] at c63b10)
                                  clear c63
                                  obtain ⟨ji64, hji64⟩ : ∃ j_ : Int, (wrap64 (4 * (l0_0.length : Int))) = j_ := ⟨_, rfl⟩
                                  replace H : (if 0 ≤ (ji64) then (if (ji64) ≤ (x5_2.size : Int) then (if (x5_2.extract ((ji64) : Int).toNat x5_2.size).size + (x6_2.extract ((a0_1.size : Int) : Int).toNat x6_2.size).size ≤ 9223372036854775807 then (hibernaclelaw12_ExePages.l2 k4 ((x5_2.extract ((ji64) : Int).toNat x5_2.size) ++ (x6_2.extract ((a0_1.size : Int) : Int).toNat x6_2.size)) 0) else (none)) else (none)) else (none)) = some r := by first | (rw [hji64] at H; exact H) | (simp only [hji64] at H ⊢; exact H)
                                  have hji64w : (IntKind.i64.wrap (4 * (l0_0.length : Int))) = ji64 := (i64_w _).trans hji64
                                  by_cases c65 : 0 ≤ (ji64)
                                  · rw [if_pos c65] at H
                                    have c65b0 := eq_true c65
                                    have c65b1 : decide (0 ≤ (ji64)) = true := decide_eq_true c65
                                    clear c65
                                    by_cases c66 : (ji64) ≤ (x5_2.size : Int)
                                    · rw [if_pos c66] at H
                                      have c66b0 := eq_true c66
                                      have c66b1 : decide ((ji64) ≤ (x5_2.size : Int)) = true := decide_eq_true c66
                                      clear c66
                                      have c67b0 := eq_true (of_decide_eq_true (by first | (with_reducible assumption) | assumption) : 0 ≤ (a0_1.size : Int))
                                      have c68b0 := eq_true (of_decide_eq_true (by first | (with_reducible assumption) | assumption) : (a0_1.size : Int) ≤ (x6_2.size : Int))
                                      by_cases c69 : (x5_2.extract ((ji64) : Int).toNat x5_2.size).size + (x6_2.extract ((a0_1.size : Int) : Int).toNat x6_2.size).size ≤ 9223372036854775807
                                      · rw [if_pos c69] at H
                                        have c69b0 := eq_true c69
                                        have c69b1 : decide ((x5_2.extract ((ji64) : Int).toNat x5_2.size).size + (x6_2.extract ((a0_1.size : Int) : Int).toNat x6_2.size).size ≤ 9223372036854775807) = true := decide_eq_true c69
                                        try have c69b2 : (9223372036854775807 < (x5_2.extract ((ji64) : Int).toNat x5_2.size).size + (x6_2.extract ((a0_1.size : Int) : Int).toNat x6_2.size).size) = False := eq_false (Nat.not_lt.2 c69)
                                        try (have c69b5 := c69b0; have c69b6 := c69b2; simp only [ByteArray.size_append, ByteArray.size_extract, Int.toNat_natCast, Nat.min_self, size_lit_, List.size_toArray, List.length_cons, List.length_nil, Nat.reduceAdd] at c69b5 c69b6)
                                        have H' := Aside0.mk H
                                        clear H
                                        have hcz70_0 : wr.cell? ⟨gb199, 0, none⟩ = some (.slice A0_0 l0_0.length c0_0) := (blk_cell BK199.out 0).trans rfl
                                        have hcz70_1 : wr.cell? ⟨gb199, 1, none⟩ = some (.string a0_1) := (blk_cell BK199.out 1).trans rfl
                                        have hcz70_2 : wr.cell? ⟨gb199, 2, none⟩ = some (.int .i64 a0_2) := (blk_cell BK199.out 2).trans rfl
                                        have hcz70_3 : wr.cell? ⟨gb199, 3, none⟩ = some (.int .u32 a0_3) := (blk_cell BK199.out 3).trans rfl
                                        have hfz70_0 := blk_frozen BK199.out 0
                                        have hfz70_1 := blk_frozen BK199.out 1
                                        have hfz70_2 := blk_frozen BK199.out 2
                                        have hfz70_3 := blk_frozen BK199.out 3
                                        try go_wp2
                                        have n0_ := Aside0.mk (blk_drew BK199.out)
                                        have n1_ := Aside0.mk (below_drew1 HB.out)
                                        clear BK199
                                        clear HB
                                        have BK199 := n0_
                                        have HB := n1_
                                        clear n0_ n1_
                                        refine start_ (n := 8) (S := fun w' => w'.cell? ⟨gb199, 0, none⟩ = some (.slice A0_0 l0_0.length c0_0) ∧ w'.cell? ⟨gb199, 1, none⟩ = some (.string a0_1) ∧ w'.cell? ⟨gb199, 2, none⟩ = some (.int .i64 a0_2) ∧ w'.cell? ⟨gb199, 3, none⟩ = some (.int .u32 a0_3)) (ds := []) #[false, false, false, false, false, false, false, false] (by kernel_rfl) rfl rfl ⟨(blk_cell BK199.out 0).trans rfl, (blk_cell BK199.out 1).trans rfl, (blk_cell BK199.out 2).trans rfl, (blk_cell BK199.out 3).trans rfl⟩ (fun hHeld => ?_); refine with_tabW hibernaclelaw12_ExePages.tab22 hibernaclelaw12_ExePages.bits22 (fun HT_ HW_ => ?_)
                                        generalize wr.drew = w71 at BK199 HB hHeld ⊢
                                        refine pure_ (i := 0) (N := some 127) (v := ?_) (a' := ?_) #[true, false, false, false, false, false, false, false] rfl rfl (any_of HT_.out (by kernel_rfl)) (fun _ _ _ h => h) (Or.inl ⟨by rfl, ?_⟩) ?_ ?_
                                        rotate_left
                                        · intro w'
                                          go_simp
                                          with_reducible rfl
                                        rotate_left
                                        · simp only [Act.put, List.setIfInBounds_toArray, List.set_cons_zero, List.set_cons_succ, i64_w, i32_w]
                                          rfl
                                        refine pure_ (i := 1) (N := some 128) (v := ?_) (a' := ?_) #[true, true, false, false, false, false, false, false] rfl rfl (any_of HT_.out (by kernel_rfl)) (fun _ _ _ h => h) (Or.inl ⟨by rfl, ?_⟩) ?_ ?_
                                        rotate_left
                                        · intro w'
                                          go_simp
                                          with_reducible rfl
                                        rotate_left
                                        · simp only [Act.put, List.setIfInBounds_toArray, List.set_cons_zero, List.set_cons_succ, i64_w, i32_w]
                                          rfl
                                        refine pure_ (i := 5) (N := some 132) (v := ?_) (a' := ?_) #[true, true, false, false, false, true, false, false] rfl rfl (any_of HT_.out (by kernel_rfl)) (fun _ _ _ h => h) (Or.inl ⟨by rfl, ?_⟩) ?_ ?_
                                        rotate_left
                                        · intro w'
                                          go_simp
                                          with_reducible rfl
                                        rotate_left
                                        · simp only [Act.put, List.setIfInBounds_toArray, List.set_cons_zero, List.set_cons_succ, i64_w, i32_w]
                                          rfl
                                        refine take_ (i := 2) (N := some 129) (v := ?_) (a' := ?_) #[true, true, true, false, false, true, false, false] rfl rfl (take_ofW HT_.out HW_.out (by kernel_rfl)) (fun _ _ _ h => h) (Or.inl ⟨by rfl, ?_⟩) hHeld ?_ ?_
                                        rotate_left
                                        · rintro w' ⟨s0, s1, s2, s3⟩
                                          go_simp
                                          with_reducible rfl
                                        rotate_left
                                        · simp only [Act.put, List.setIfInBounds_toArray, List.set_cons_zero, List.set_cons_succ, i64_w, i32_w]
                                          rfl
                                        refine pure_ (i := 3) (N := some 130) (v := ?_) (a' := ?_) #[true, true, true, true, false, true, false, false] rfl rfl (any_of HT_.out (by kernel_rfl)) (fun _ _ _ h => h) (Or.inl ⟨by rfl, ?_⟩) ?_ ?_
                                        rotate_left
                                        · intro w'
                                          go_simp
                                          with_reducible rfl
                                        rotate_left
                                        · simp only [Act.put, List.setIfInBounds_toArray, List.set_cons_zero, List.set_cons_succ, i64_w, i32_w]
                                          rfl
                                        refine pure_ (i := 4) (N := some 131) (v := ?_) (a' := ?_) #[true, true, true, true, true, true, false, false] rfl rfl (any_of HT_.out (by kernel_rfl)) (fun _ _ _ h => h) (Or.inl ⟨by rfl, ?_⟩) ?_ ?_
                                        rotate_left
                                        · intro w'
                                          go_simp
                                          with_reducible rfl
                                        rotate_left
                                        · simp only [Act.put, List.setIfInBounds_toArray, List.set_cons_zero, List.set_cons_succ, i64_w, i32_w]
                                          rfl
                                        refine take_ (i := 6) (N := some 133) (v := ?_) (a' := ?_) #[true, true, true, true, true, true, true, false] rfl rfl (take_ofW HT_.out HW_.out (by kernel_rfl)) (fun _ _ _ h => h) (Or.inl ⟨by rfl, ?_⟩) hHeld ?_ ?_
                                        rotate_left
                                        · rintro w' ⟨s0, s1, s2, s3⟩
                                          go_simp
                                          with_reducible rfl
                                        rotate_left
                                        · simp only [Act.put, List.setIfInBounds_toArray, List.set_cons_zero, List.set_cons_succ, i64_w, i32_w]
                                          rfl
                                        refine pure_ (i := 7) (N := some 134) (v := ?_) (a' := ?_) #[true, true, true, true, true, true, true, true] rfl rfl (any_of HT_.out (by kernel_rfl)) (fun _ _ _ h => h) (Or.inl ⟨by rfl, ?_⟩) ?_ ?_
                                        rotate_left
                                        · intro w'
                                          go_simp
                                          with_reducible rfl
                                        rotate_left
                                        · simp only [Act.put, List.setIfInBounds_toArray, List.set_cons_zero, List.set_cons_succ, i64_w, i32_w]
                                          rfl
                                        refine done_ (done_of HT_.out (by kernel_rfl)) ?_
                                        try go_wp2
                                        have n0_ := Aside0.mk (blk_drew BK199.out)
                                        have n1_ := Aside0.mk (below_drew1 HB.out)
                                        clear BK199
                                        clear HB
                                        have BK199 := n0_
                                        have HB := n1_
                                        clear n0_ n1_
                                        refine start_ (n := 13) (S := fun w' => w'.cell? ⟨gb199, 0, none⟩ = some (.slice A0_0 l0_0.length c0_0) ∧ w'.cell? ⟨gb199, 1, none⟩ = some (.string a0_1) ∧ w'.cell? ⟨gb199, 2, none⟩ = some (.int .i64 a0_2) ∧ w'.cell? ⟨gb199, 3, none⟩ = some (.int .u32 a0_3)) (ds := []) #[false, false, false, false, false, false, false, false, false, false, false, false, false] (by kernel_rfl) rfl rfl ⟨(blk_cell BK199.out 0).trans rfl, (blk_cell BK199.out 1).trans rfl, (blk_cell BK199.out 2).trans rfl, (blk_cell BK199.out 3).trans rfl⟩ (fun hHeld => ?_); refine with_tabW hibernaclelaw12_ExePages.tab24 hibernaclelaw12_ExePages.bits24 (fun HT_ HW_ => ?_)
                                        generalize w71.drew = w72 at BK199 HB hHeld ⊢
                                        refine pure_ (i := 0) (N := some 135) (v := ?_) (a' := ?_) #[true, false, false, false, false, false, false, false, false, false, false, false, false] rfl rfl (any_of HT_.out (by kernel_rfl)) (fun _ _ _ h => h) (Or.inl ⟨by rfl, ?_⟩) ?_ ?_
                                        rotate_left
                                        · intro w'
                                          go_simp
                                          with_reducible rfl
                                        rotate_left
                                        · simp only [Act.put, List.setIfInBounds_toArray, List.set_cons_zero, List.set_cons_succ, i64_w, i32_w]
                                          rfl
                                        refine pure_ (i := 1) (N := some 136) (v := ?_) (a' := ?_) #[true, true, false, false, false, false, false, false, false, false, false, false, false] rfl rfl (any_of HT_.out (by kernel_rfl)) (fun _ _ _ h => h) (Or.inl ⟨by rfl, ?_⟩) ?_ ?_
                                        rotate_left
                                        · intro w'
                                          go_simp
                                          with_reducible rfl
                                        rotate_left
                                        · simp only [Act.put, List.setIfInBounds_toArray, List.set_cons_zero, List.set_cons_succ, i64_w, i32_w]
                                          rfl
                                        refine pure_ (i := 6) (N := some 141) (v := ?_) (a' := ?_) #[true, true, false, false, false, false, true, false, false, false, false, false, false] rfl rfl (any_of HT_.out (by kernel_rfl)) (fun _ _ _ h => h) (Or.inl ⟨by rfl, ?_⟩) ?_ ?_
                                        rotate_left
                                        · intro w'
                                          go_simp
                                          with_reducible rfl
                                        rotate_left
                                        · simp only [Act.put, List.setIfInBounds_toArray, List.set_cons_zero, List.set_cons_succ, i64_w, i32_w]
                                          rfl
                                        refine pure_ (i := 7) (N := some 142) (v := ?_) (a' := ?_) #[true, true, false, false, false, false, true, true, false, false, false, false, false] rfl rfl (any_of HT_.out (by kernel_rfl)) (fun _ _ _ h => h) (Or.inl ⟨by rfl, ?_⟩) ?_ ?_
                                        rotate_left
                                        · intro w'
                                          go_simp
                                          with_reducible rfl
                                        rotate_left
                                        · simp only [Act.put, List.setIfInBounds_toArray, List.set_cons_zero, List.set_cons_succ, i64_w, i32_w]
                                          rfl
                                        refine take_ (i := 2) (N := some 137) (v := ?_) (a' := ?_) #[true, true, true, false, false, false, true, true, false, false, false, false, false] rfl rfl (take_ofW HT_.out HW_.out (by kernel_rfl)) (fun _ _ _ h => h) (Or.inl ⟨by rfl, ?_⟩) hHeld ?_ ?_
                                        rotate_left
                                        · rintro w' ⟨s0, s1, s2, s3⟩
                                          go_simp
                                          with_reducible rfl
                                        rotate_left
                                        · simp only [Act.put, List.setIfInBounds_toArray, List.set_cons_zero, List.set_cons_succ, i64_w, i32_w]
                                          rfl
                                        refine pure_ (i := 3) (N := some 138) (v := ?_) (a' := ?_) #[true, true, true, true, false, false, true, true, false, false, false, false, false] rfl rfl (any_of HT_.out (by kernel_rfl)) (fun _ _ _ h => h) (Or.inl ⟨by rfl, ?_⟩) ?_ ?_
                                        rotate_left
                                        · intro w'
                                          go_simp
                                          with_reducible rfl
                                        rotate_left
                                        · simp only [Act.put, List.setIfInBounds_toArray, List.set_cons_zero, List.set_cons_succ, i64_w, i32_w]
                                          rfl
                                        refine pure_ (i := 4) (N := some 139) (v := ?_) (a' := ?_) #[true, true, true, true, true, false, true, true, false, false, false, false, false] rfl rfl (any_of HT_.out (by kernel_rfl)) (fun _ _ _ h => h) (Or.inl ⟨by rfl, ?_⟩) ?_ ?_
                                        rotate_left
                                        · intro w'
                                          go_simp
                                          with_reducible rfl
                                        rotate_left
                                        · simp only [Act.put, List.setIfInBounds_toArray, List.set_cons_zero, List.set_cons_succ, i64_w, i32_w]
                                          rfl
                                        refine pure_ (i := 5) (N := some 140) (v := ?_) (a' := ?_) #[true, true, true, true, true, true, true, true, false, false, false, false, false] rfl rfl (any_of HT_.out (by kernel_rfl)) (fun _ _ _ h => h) (Or.inl ⟨by rfl, ?_⟩) ?_ ?_
                                        rotate_left
                                        · intro w'
                                          go_simp
                                          with_reducible rfl
                                        rotate_left
                                        · simp only [Act.put, List.setIfInBounds_toArray, List.set_cons_zero, List.set_cons_succ, i64_w, i32_w]
                                          rfl
                                        refine take_ (i := 8) (N := some 143) (v := ?_) (a' := ?_) #[true, true, true, true, true, true, true, true, true, false, false, false, false] rfl rfl (take_ofW HT_.out HW_.out (by kernel_rfl)) (fun _ _ _ h => h) (Or.inl ⟨by rfl, ?_⟩) hHeld ?_ ?_
                                        rotate_left
                                        · rintro w' ⟨s0, s1, s2, s3⟩
                                          go_simp
                                          with_reducible rfl
                                        rotate_left
                                        · simp only [Act.put, List.setIfInBounds_toArray, List.set_cons_zero, List.set_cons_succ, i64_w, i32_w]
                                          rfl
                                        refine pure_ (i := 9) (N := some 144) (v := ?_) (a' := ?_) #[true, true, true, true, true, true, true, true, true, true, false, false, false] rfl rfl (any_of HT_.out (by kernel_rfl)) (fun _ _ _ h => h) (Or.inl ⟨by rfl, ?_⟩) ?_ ?_
                                        rotate_left
                                        · intro w'
                                          go_simp
                                          with_reducible rfl
                                        rotate_left
                                        · simp only [Act.put, List.setIfInBounds_toArray, List.set_cons_zero, List.set_cons_succ, i64_w, i32_w]
                                          rfl
                                        refine pure_ (i := 10) (N := some 145) (v := ?_) (a' := ?_) #[true, true, true, true, true, true, true, true, true, true, true, false, false] rfl rfl (any_of HT_.out (by kernel_rfl)) (fun _ _ _ h => h) (Or.inl ⟨by rfl, ?_⟩) ?_ ?_
                                        rotate_left
                                        · intro w'
                                          go_simp
                                          with_reducible rfl
                                        rotate_left
                                        · simp only [Act.put, List.setIfInBounds_toArray, List.set_cons_zero, List.set_cons_succ, i64_w, i32_w]
                                          rfl
                                        refine pure_ (i := 11) (N := some 146) (v := ?_) (a' := ?_) #[true, true, true, true, true, true, true, true, true, true, true, true, false] rfl rfl (any_of HT_.out (by kernel_rfl)) (fun _ _ _ h => h) (Or.inl ⟨by rfl, ?_⟩) ?_ ?_
                                        rotate_left
                                        · intro w'
                                          go_simp
                                          with_reducible rfl
                                        rotate_left
                                        · simp only [Act.put, List.setIfInBounds_toArray, List.set_cons_zero, List.set_cons_succ, i64_w, i32_w]
                                          rfl
                                        refine pure_ (i := 12) (N := some 9) (v := ?_) (a' := ?_) #[true, true, true, true, true, true, true, true, true, true, true, true, true] rfl rfl (any_of HT_.out (by kernel_rfl)) (fun _ _ _ h => h) (Or.inl ⟨by rfl, ?_⟩) ?_ ?_
                                        rotate_left
                                        · intro w'
                                          go_simp
                                          with_reducible rfl
                                        rotate_left
                                        · simp only [Act.put, List.setIfInBounds_toArray, List.set_cons_zero, List.set_cons_succ, i64_w, i32_w]
                                          rfl
                                        refine done_ (done_of HT_.out (by kernel_rfl)) ?_
                                        try go_wp2
                                        obtain ⟨S9, hS9⟩ : ∃ S9 : ByteArray, x5_2.extract ji64.toNat x5_2.size ++ x6_2.extract a0_1.size x6_2.size = S9 := ⟨_, rfl⟩
                                        simp only [Int.toNat_natCast] at H'
                                        rw [hS9] at H'
                                        simp only [hS9]
                                        clear hS9
                                        go_loopg [10] k4 (fun kq v10 w' => ∃ (x10_5 : Int), v10 = .int .i64 x10_5 ∧ Aside0 (hibernaclelaw12_ExePages.l2 kq S9 x10_5 = some r) ∧ Aside0 (kq ≤ k4) ∧ Aside0 (w'.heap[gb199]? = some (.cells #[(.slice A0_0 l0_0.length c0_0), .string a0_1, .int .i64 a0_2, .int .u32 a0_3] 25 (0, 0))) ∧ Aside0 (Below w.heap.size w w'))
                                        case atStart => exact ⟨(0), (by first | rfl | (simp; done) | (simp [*]; done)), H', ⟨Nat.le_refl _⟩, ⟨by (with_reducible repeat (first | refine blk_drewN ?_ _ | refine blk_drew ?_ | refine blk_alloc ?_ _)); exact BK199.out⟩, ⟨by repeat (first | (with_reducible first | exact HB.out | apply below_alloc | apply pw_below_drewN | apply below_drew1 | refine below_set ?_ GE199.out) | exact HB.out)⟩⟩
                                        case round =>
                                          clear H'
                                          try clear c1
                                          try clear p2
                                          try clear q2
                                          try clear hx2
                                          try clear c4
                                          try clear c5
                                          try clear c6
                                          try clear p6
                                          try clear c14
                                          try clear p21
                                          try clear q21
                                          try clear hx21
                                          try clear c47
                                          try clear c47b0
                                          try clear c49
                                          try clear c50
                                          try clear c51
                                          try clear c53
                                          try clear c53b0
                                          try clear c54
                                          try clear c54b0
                                          try clear c54b1
                                          try clear c61
                                          try clear c61b0
                                          try clear c61b1
                                          try clear c62
                                          try clear c62b0
                                          try clear c62b1
                                          try clear c63
                                          try clear c63b0
                                          try clear c63b1
                                          try clear p64
                                          try clear c65
                                          try clear c65b0
                                          try clear c65b1
                                          try clear c66
                                          try clear c66b0
                                          try clear c66b1
                                          try clear c67
                                          try clear c67b0
                                          try clear c68
                                          try clear c68b0
                                          try clear c69
                                          try clear c69b0
                                          try clear c69b1
                                          try clear c69b2
                                          try clear hcz55_0
                                          try clear hcz55_1
                                          try clear hcz55_2
                                          try clear hcz55_3
                                          try clear hcz58_0
                                          try clear hcz58_1
                                          try clear hcz58_2
                                          try clear hcz58_3
                                          try clear hcz70_0
                                          try clear hcz70_1
                                          try clear hcz70_2
                                          try clear hcz70_3
                                          try clear hfz55_0
                                          try clear hfz55_1
                                          try clear hfz55_2
                                          try clear hfz55_3
                                          try clear hfz58_0
                                          try clear hfz58_1
                                          try clear hfz58_2
                                          try clear hfz58_3
                                          try clear hfz70_0
                                          try clear hfz70_1
                                          try clear hfz70_2
                                          try clear hfz70_3
                                          try clear hx214_0
                                          try clear p214
                                          try clear q214
                                          obtain ⟨x10_5, rfl, HA, HK5, BK199, HB⟩ := hrel
                                          cases gk with
                                          | zero => exact absurd HA.out (by simp [hibernaclelaw12_ExePages.l2])
                                          | succ k5 =>
                                            have H := HA.out
                                            clear HA
                                            simp only [hibernaclelaw12_ExePages.l2] at H
                                            by_cases c73 : x10_5 < (S9.size : Int)
                                            · rw [if_pos c73] at H
                                              have c73b0 : decide (x10_5 < (S9.size : Int)) = true := decide_eq_true c73
                                              clear c73
                                              by_cases c74 : 0 ≤ x10_5
                                              · rw [if_pos c74] at H
                                                have c74b0 : decide (0 ≤ x10_5) = true := decide_eq_true c74
                                                clear c74
                                                by_cases c76 : (bt S9 x10_5) = 0
                                                · rw [if_pos c76] at H
                                                  have c76b0 : ((bt S9 x10_5) == 0) = true := beq_iff_eq.mpr c76
                                                  have c76b1 : ((bt S9 x10_5) != 0) = false := bne_eq_false_iff_eq.mpr c76
                                                  clear c76
                                                  have H' := Aside0.mk H
                                                  clear H
                                                  have p75 : 0 ≤ (x10_5 : Int) := of_decide_eq_true (by first | (with_reducible assumption) | assumption)
                                                  have q75 : x10_5 < (S9.size : Int) := of_decide_eq_true (by first | (with_reducible assumption) | assumption)
                                                  have hx75 := bt_at S9 x10_5
                                                  replace p75 := eq_true p75
                                                  replace q75 := eq_true q75
                                                  go_wp2
                                                  go_roundg k5
                                                  case measure => have := HJ1.out; have := HK2.out; have := HJ38.out; have := HK4.out; have := HK5.out; omega
                                                  case rel => exact ⟨(wrap64 (x10_5 + 1)), (by first | rfl | (simp; done) | (simp [*]; done)), H', ⟨by have := HJ1.out; have := HK2.out; have := HJ38.out; have := HK4.out; have := HK5.out; omega⟩, ⟨by (with_reducible repeat (first | refine blk_drewN ?_ _ | refine blk_drew ?_ | refine blk_alloc ?_ _)); exact BK199.out⟩, ⟨by repeat (first | (with_reducible first | exact HB.out | apply below_alloc | apply pw_below_drewN | apply below_drew1 | refine below_set ?_ GE199.out) | exact HB.out)⟩⟩
                                                · rw [if_neg c76] at H
                                                  have c76b0 : ((bt S9 x10_5) == 0) = false := beq_eq_false_iff_ne.mpr c76
                                                  have c76b1 : ((bt S9 x10_5) != 0) = true := bne_iff_ne.mpr c76
                                                  obtain rfl := Option.some.inj H
                                                  have p75 : 0 ≤ (x10_5 : Int) := of_decide_eq_true (by first | (with_reducible assumption) | assumption)
                                                  have q75 : x10_5 < (S9.size : Int) := of_decide_eq_true (by first | (with_reducible assumption) | assumption)
                                                  have hx75 := bt_at S9 x10_5
                                                  replace p75 := eq_true p75
                                                  replace q75 := eq_true q75
                                                  go_wp2
                                                  go_ret
                                                  exact ⟨by first | rfl | (simp [errW_none, errW_some] <;> rfl) | (simp only [← hji64]; first | rfl | (simp [errW_none, errW_some] <;> rfl)) | (simp [*, errW_none, errW_some] <;> rfl), by repeat (first | (with_reducible first | exact HB.out | apply below_alloc | apply pw_below_drewN | apply below_drew1 | refine below_set ?_ GE199.out) | exact HB.out)⟩
                                              · rw [if_neg c74] at H
                                                exact absurd H (by simp)
                                            · rw [if_neg c73] at H
                                              have c73b0 : decide (x10_5 < (S9.size : Int)) = false := decide_eq_false c73
                                              clear c73
                                              replace H := Option.bind_eq_some_iff.mp H
                                              obtain ⟨t215, A770, H⟩ := H
                                              replace H : (some t215) = some r := H
                                              have A77 := Aside0.mk A770
                                              clear A770
                                              obtain rfl := Option.some.inj H
                                              go_wp2_with (first | ((with_reducible refine gate_callee (f := 10) rfl ?_); refine goesL_ (some 157) rfl rfl Try.func10 (by kernel_rfl) rfl #[] rfl (by (try simp only [List.map_toArray, List.map_cons, List.map_nil]); first | done | rfl | (simp only [List.length_drop, List.length_take]; rfl)) ?_; (with_reducible refine (hibernaclelaw12_awake.calls k5  t215 _ A77.out).mono ?_); rintro e w78 ⟨rfl, hb⟩; refine ⟨_, rfl, ?_⟩; have n0_ := Aside0.mk (blk_below (g := gb199) (o := .cells #[.slice A0_0 l0_0.length c0_0, .string a0_1, .int .i64 a0_2, .int .u32 a0_3] 25 (0, 0)) (by (with_reducible repeat (first | refine blk_drewN ?_ _ | refine blk_drew ?_ | refine blk_alloc ?_ _)); exact BK199.out) hb); have n1_ := Aside0.mk (below_step (by repeat (first | (with_reducible first | exact HB.out | apply below_alloc | apply pw_below_drewN | apply below_drew1 | refine below_set ?_ GE199.out) | exact HB.out)) hb); clear BK199; clear HB; have BK199 := n0_; have HB := n1_; clear n0_ n1_; (try clear hb); (try clear hb2); (try clear hk); (try clear hi)))
                                              go_ret
                                              exact ⟨by first | rfl | (simp [errW_none, errW_some] <;> rfl) | (simp only [← hji64]; first | rfl | (simp [errW_none, errW_some] <;> rfl)) | (simp [*, errW_none, errW_some] <;> rfl), by repeat (first | (with_reducible first | exact HB.out | apply below_alloc | apply pw_below_drewN | apply below_drew1 | refine below_set ?_ GE199.out) | exact HB.out)⟩
                                      · rw [if_neg c69] at H
                                        exact absurd H (by simp)
                                    · rw [if_neg c66] at H
                                      exact absurd H (by simp)
                                  · rw [if_neg c65] at H
                                    exact absurd H (by simp)
                                · rw [if_neg c63] at H
                                  have c63b0 : ((x6_2.extract 0 ((a0_1.size : Int) : Int).toNat).toList == a0_1.toList) = false := beq_eq_false_iff_ne.mpr c63
                                  have c63b1 : ((x6_2.extract 0 ((a0_1.size : Int) : Int).toNat).toList != a0_1.toList) = true := bne_iff_ne.mpr c63
                                  try (have c63b9 := c63b0; simp only [Int.toNat_natCast] at c63b9)
                                  try (have c63b10 := c63b1; simp only [Int.toNat_natCast] at c63b10)
                                  obtain rfl := Option.some.inj H
                                  have hcz79_0 : wr.cell? ⟨gb199, 0, none⟩ = some (.slice A0_0 l0_0.length c0_0) := (blk_cell BK199.out 0).trans rfl
                                  have hcz79_1 : wr.cell? ⟨gb199, 1, none⟩ = some (.string a0_1) := (blk_cell BK199.out 1).trans rfl
                                  have hcz79_2 : wr.cell? ⟨gb199, 2, none⟩ = some (.int .i64 a0_2) := (blk_cell BK199.out 2).trans rfl
                                  have hcz79_3 : wr.cell? ⟨gb199, 3, none⟩ = some (.int .u32 a0_3) := (blk_cell BK199.out 3).trans rfl
                                  have hfz79_0 := blk_frozen BK199.out 0
                                  have hfz79_1 := blk_frozen BK199.out 1
                                  have hfz79_2 := blk_frozen BK199.out 2
                                  have hfz79_3 := blk_frozen BK199.out 3
                                  try go_wp2
                                  have n0_ := Aside0.mk (blk_drew BK199.out)
                                  have n1_ := Aside0.mk (below_drew1 HB.out)
                                  clear BK199
                                  clear HB
                                  have BK199 := n0_
                                  have HB := n1_
                                  clear n0_ n1_
                                  refine start_ (n := 8) (S := fun w' => w'.cell? ⟨gb199, 0, none⟩ = some (.slice A0_0 l0_0.length c0_0) ∧ w'.cell? ⟨gb199, 1, none⟩ = some (.string a0_1) ∧ w'.cell? ⟨gb199, 2, none⟩ = some (.int .i64 a0_2) ∧ w'.cell? ⟨gb199, 3, none⟩ = some (.int .u32 a0_3)) (ds := []) #[false, false, false, false, false, false, false, false] (by kernel_rfl) rfl rfl ⟨(blk_cell BK199.out 0).trans rfl, (blk_cell BK199.out 1).trans rfl, (blk_cell BK199.out 2).trans rfl, (blk_cell BK199.out 3).trans rfl⟩ (fun hHeld => ?_); refine with_tabW hibernaclelaw12_ExePages.tab22 hibernaclelaw12_ExePages.bits22 (fun HT_ HW_ => ?_)
                                  generalize wr.drew = w80 at BK199 HB hHeld ⊢
                                  refine pure_ (i := 0) (N := some 127) (v := ?_) (a' := ?_) #[true, false, false, false, false, false, false, false] rfl rfl (any_of HT_.out (by kernel_rfl)) (fun _ _ _ h => h) (Or.inl ⟨by rfl, ?_⟩) ?_ ?_
                                  rotate_left
                                  · intro w'
                                    go_simp
                                    with_reducible rfl
                                  rotate_left
                                  · simp only [Act.put, List.setIfInBounds_toArray, List.set_cons_zero, List.set_cons_succ, i64_w, i32_w]
                                    rfl
                                  refine pure_ (i := 1) (N := some 128) (v := ?_) (a' := ?_) #[true, true, false, false, false, false, false, false] rfl rfl (any_of HT_.out (by kernel_rfl)) (fun _ _ _ h => h) (Or.inl ⟨by rfl, ?_⟩) ?_ ?_
                                  rotate_left
                                  · intro w'
                                    go_simp
                                    with_reducible rfl
                                  rotate_left
                                  · simp only [Act.put, List.setIfInBounds_toArray, List.set_cons_zero, List.set_cons_succ, i64_w, i32_w]
                                    rfl
                                  refine pure_ (i := 5) (N := some 132) (v := ?_) (a' := ?_) #[true, true, false, false, false, true, false, false] rfl rfl (any_of HT_.out (by kernel_rfl)) (fun _ _ _ h => h) (Or.inl ⟨by rfl, ?_⟩) ?_ ?_
                                  rotate_left
                                  · intro w'
                                    go_simp
                                    with_reducible rfl
                                  rotate_left
                                  · simp only [Act.put, List.setIfInBounds_toArray, List.set_cons_zero, List.set_cons_succ, i64_w, i32_w]
                                    rfl
                                  refine take_ (i := 2) (N := some 129) (v := ?_) (a' := ?_) #[true, true, true, false, false, true, false, false] rfl rfl (take_ofW HT_.out HW_.out (by kernel_rfl)) (fun _ _ _ h => h) (Or.inl ⟨by rfl, ?_⟩) hHeld ?_ ?_
                                  rotate_left
                                  · rintro w' ⟨s0, s1, s2, s3⟩
                                    go_simp
                                    with_reducible rfl
                                  rotate_left
                                  · simp only [Act.put, List.setIfInBounds_toArray, List.set_cons_zero, List.set_cons_succ, i64_w, i32_w]
                                    rfl
                                  refine pure_ (i := 3) (N := some 130) (v := ?_) (a' := ?_) #[true, true, true, true, false, true, false, false] rfl rfl (any_of HT_.out (by kernel_rfl)) (fun _ _ _ h => h) (Or.inl ⟨by rfl, ?_⟩) ?_ ?_
                                  rotate_left
                                  · intro w'
                                    go_simp
                                    with_reducible rfl
                                  rotate_left
                                  · simp only [Act.put, List.setIfInBounds_toArray, List.set_cons_zero, List.set_cons_succ, i64_w, i32_w]
                                    rfl
                                  refine pure_ (i := 4) (N := some 131) (v := ?_) (a' := ?_) #[true, true, true, true, true, true, false, false] rfl rfl (any_of HT_.out (by kernel_rfl)) (fun _ _ _ h => h) (Or.inl ⟨by rfl, ?_⟩) ?_ ?_
                                  rotate_left
                                  · intro w'
                                    go_simp
                                    with_reducible rfl
                                  rotate_left
                                  · simp only [Act.put, List.setIfInBounds_toArray, List.set_cons_zero, List.set_cons_succ, i64_w, i32_w]
                                    rfl
                                  refine take_ (i := 6) (N := some 133) (v := ?_) (a' := ?_) #[true, true, true, true, true, true, true, false] rfl rfl (take_ofW HT_.out HW_.out (by kernel_rfl)) (fun _ _ _ h => h) (Or.inl ⟨by rfl, ?_⟩) hHeld ?_ ?_
                                  rotate_left
                                  · rintro w' ⟨s0, s1, s2, s3⟩
                                    go_simp
                                    with_reducible rfl
                                  rotate_left
                                  · simp only [Act.put, List.setIfInBounds_toArray, List.set_cons_zero, List.set_cons_succ, i64_w, i32_w]
                                    rfl
                                  refine pure_ (i := 7) (N := some 134) (v := ?_) (a' := ?_) #[true, true, true, true, true, true, true, true] rfl rfl (any_of HT_.out (by kernel_rfl)) (fun _ _ _ h => h) (Or.inl ⟨by rfl, ?_⟩) ?_ ?_
                                  rotate_left
                                  · intro w'
                                    go_simp
                                    with_reducible rfl
                                  rotate_left
                                  · simp only [Act.put, List.setIfInBounds_toArray, List.set_cons_zero, List.set_cons_succ, i64_w, i32_w]
                                    rfl
                                  refine done_ (done_of HT_.out (by kernel_rfl)) ?_
                                  try go_wp2
                                  go_ret
                                  exact ⟨by first | rfl | (simp [errW_none, errW_some] <;> rfl) | (simp [*, errW_none, errW_some] <;> rfl), by repeat (first | (with_reducible first | exact HB.out | apply below_alloc | apply pw_below_drewN | apply below_drew1 | refine below_set ?_ GE199.out) | exact HB.out)⟩
                              · rw [if_neg c62] at H
                                exact absurd H (by simp)
                            · rw [if_neg c61] at H
                              exact absurd H (by simp)
        · rw [if_neg c17] at H
          have c17b0 : (t206 == 0) = false := beq_eq_false_iff_ne.mpr c17
          have c17b1 : (t206 != 0) = true := bne_iff_ne.mpr c17
          obtain rfl := Option.some.inj H
          have hcz81_0 : wc.cell? ⟨gb199, 0, none⟩ = some (.slice A0_0 l0_0.length c0_0) := (blk_cell BK199.out 0).trans rfl
          have hcz81_1 : wc.cell? ⟨gb199, 1, none⟩ = some (.string a0_1) := (blk_cell BK199.out 1).trans rfl
          have hcz81_2 : wc.cell? ⟨gb199, 2, none⟩ = some (.int .i64 a0_2) := (blk_cell BK199.out 2).trans rfl
          have hcz81_3 : wc.cell? ⟨gb199, 3, none⟩ = some (.int .u32 a0_3) := (blk_cell BK199.out 3).trans rfl
          have hfz81_0 := blk_frozen BK199.out 0
          have hfz81_1 := blk_frozen BK199.out 1
          have hfz81_2 := blk_frozen BK199.out 2
          have hfz81_3 := blk_frozen BK199.out 3
          go_wp2_with (first | ((with_reducible refine gate_callee (f := 11) rfl ?_); refine goesL_ (some 21) rfl rfl Try.func11 (by kernel_rfl) rfl #[.agg #[.slice A0_0 l0_0.length c0_0, .string a0_1, .int .i64 a0_2, .int .u32 a0_3]] rfl (by (try simp only [List.map_toArray, List.map_cons, List.map_nil]); first | done | rfl | (simp only [List.length_drop, List.length_take]; rfl)) ?_; (with_reducible refine (exe_Lay.calls kj1 _ _ l0_0 a0_1 a0_2 a0_3 t203 t206 _ ?side1 ?side2 A16.out).mono ?_); (case side1 => repeat (first | exact (Kd.C_below HR0_0.out HB.out) | (with_reducible refine Kd.C_alloc ?_ _) | (with_reducible refine Kd.C_drewN ?_ _) | (with_reducible refine Kd.C_drew ?_))); (case side2 => exact HC0_0.out); rintro e w82 ⟨v204, rfl, ho0, hb⟩; refine ⟨_, rfl, ?_⟩; have n0_ := Aside0.mk (Kd.R_lower ho0 (below_size (by repeat (first | (with_reducible first | exact HB.out | apply below_alloc | apply pw_below_drewN | apply below_drew1 | refine below_set ?_ GE199.out) | exact HB.out)))); have n1_ := Aside0.mk (blk_below (g := gb199) (o := .cells #[.slice A0_0 l0_0.length c0_0, .string a0_1, .int .i64 a0_2, .int .u32 a0_3] 25 (0, 0)) (by (with_reducible repeat (first | refine blk_drewN ?_ _ | refine blk_drew ?_ | refine blk_alloc ?_ _)); exact BK199.out) hb); have n2_ := Aside0.mk (below_step (by repeat (first | (with_reducible first | exact HB.out | apply below_alloc | apply pw_below_drewN | apply below_drew1 | refine below_set ?_ GE199.out) | exact HB.out)) hb); clear BK199; clear HB; have HO205 := n0_; have BK199 := n1_; have HB := n2_; clear n0_ n1_ n2_; (try clear hb); (try clear hb2); (try clear hk); (try clear hi); (try clear ho0)))
          go_ret
          exact ⟨by first | rfl | (simp [errW_none, errW_some] <;> rfl) | (simp [*, errW_none, errW_some] <;> rfl), by repeat (first | (with_reducible first | exact HB.out | apply below_alloc | apply pw_below_drewN | apply below_drew1 | refine below_set ?_ GE199.out) | exact HB.out)⟩

end Go.Proofs.Ytgjhabeoaejcdaa.P
