-- Printed for this claim and put together by wip/tools/prune.py.
import Derived.Test.YthdfkbkenklcaaaDoorCTO1
import Derived.Test.YthdfkbkenklcaaaDoorCTO6
import Derived.Test.YthdfkbkenklcaaaDoorCTO7
import Derived.Test.YthdfkbkenklcaaaDoorCTO8
set_option linter.unusedVariables false
set_option linter.unusedSimpArgs false
section
namespace Go.Proofs.YthdfkbkenklcaaaDoor.P
section
abbrev zb1_Px10 : Array Bool := #[false, false, false, false, false, false, false, false, false, false, false, false, false, false, false, false]
abbrev zb2_Px10 : Array Bool := #[true, false, false, false, false, false, false, false, false, false, false, false, false, false, false, false]
abbrev zb3_Px10 : Array Bool := #[true, true, false, false, false, false, false, false, false, false, false, false, false, false, false, false]
abbrev zb4_Px10 : Array Bool := #[true, true, false, false, false, false, true, false, false, false, false, false, false, false, false, false]
abbrev zb5_Px10 : Array Bool := #[true, true, false, false, false, false, true, false, false, false, false, true, false, false, false, false]
abbrev zb6_Px10 : Array Bool := #[true, true, true, false, false, false, true, false, false, false, false, true, false, false, false, false]
abbrev zb7_Px10 : Array Bool := #[true, true, true, false, false, false, true, true, false, false, false, true, false, false, false, false]
abbrev zb8_Px10 : Array Bool := #[true, true, true, false, false, false, true, true, false, false, false, true, true, false, false, false]
abbrev zb9_Px10 : Array Bool := #[true, true, true, true, false, false, true, true, false, false, false, true, true, false, false, false]
abbrev zb10_Px10 : Array Bool := #[true, true, true, true, true, false, true, true, false, false, false, true, true, false, false, false]
abbrev zb11_Px10 : Array Bool := #[true, true, true, true, true, true, true, true, false, false, false, true, true, false, false, false]
abbrev zb12_Px10 : Array Bool := #[true, true, true, true, true, true, true, true, true, false, false, true, true, false, false, false]
abbrev zb13_Px10 : Array Bool := #[true, true, true, true, true, true, true, true, true, true, false, true, true, false, false, false]
abbrev zb14_Px10 : Array Bool := #[true, true, true, true, true, true, true, true, true, true, true, true, true, false, false, false]
abbrev zb15_Px10 : Array Bool := #[true, true, true, true, true, true, true, true, true, true, true, true, true, true, false, false]
abbrev zb16_Px10 : Array Bool := #[true, true, true, true, true, true, true, true, true, true, true, true, true, true, true, false]
abbrev zb17_Px10 : Array Bool := #[true, true, true, true, true, true, true, true, true, true, true, true, true, true, true, true]
abbrev zb18_Px10 : Array Bool := #[false, false, false, false, false, false, false, false, false, false, false, false, false, false, false, false, false]
abbrev zb19_Px10 : Array Bool := #[true, false, false, false, false, false, false, false, false, false, false, false, false, false, false, false, false]
abbrev zb20_Px10 : Array Bool := #[true, true, false, false, false, false, false, false, false, false, false, false, false, false, false, false, false]
abbrev zb21_Px10 : Array Bool := #[true, true, false, false, false, false, true, false, false, false, false, false, false, false, false, false, false]
abbrev zb22_Px10 : Array Bool := #[true, true, false, false, false, false, true, false, false, false, false, true, false, false, false, false, false]
abbrev zb23_Px10 : Array Bool := #[true, true, true, false, false, false, true, false, false, false, false, true, false, false, false, false, false]
abbrev zb24_Px10 : Array Bool := #[true, true, true, false, false, false, true, true, false, false, false, true, false, false, false, false, false]
abbrev zb25_Px10 : Array Bool := #[true, true, true, false, false, false, true, true, false, false, false, true, true, false, false, false, false]
abbrev zb26_Px10 : Array Bool := #[true, true, true, true, false, false, true, true, false, false, false, true, true, false, false, false, false]
abbrev zb27_Px10 : Array Bool := #[true, true, true, true, true, false, true, true, false, false, false, true, true, false, false, false, false]
abbrev zb28_Px10 : Array Bool := #[true, true, true, true, true, true, true, true, false, false, false, true, true, false, false, false, false]
abbrev zb29_Px10 : Array Bool := #[true, true, true, true, true, true, true, true, true, false, false, true, true, false, false, false, false]
abbrev zb30_Px10 : Array Bool := #[true, true, true, true, true, true, true, true, true, true, false, true, true, false, false, false, false]
abbrev zb31_Px10 : Array Bool := #[true, true, true, true, true, true, true, true, true, true, true, true, true, false, false, false, false]
abbrev zb32_Px10 : Array Bool := #[true, true, true, true, true, true, true, true, true, true, true, true, true, true, false, false, false]
abbrev zb33_Px10 : Array Bool := #[true, true, true, true, true, true, true, true, true, true, true, true, true, true, true, false, false]
abbrev zb34_Px10 : Array Bool := #[true, true, true, true, true, true, true, true, true, true, true, true, true, true, true, true, false]
abbrev zb35_Px10 : Array Bool := #[true, true, true, true, true, true, true, true, true, true, true, true, true, true, true, true, true]
open Go.RowKit Go.Proofs.YthdfkbkenklcaaaDoorW.PrintWords Go.Proofs.YthdfkbkenklcaaaDoorW.PrintLast Go.Proofs.YthdfkbkenklcaaaDoorW.PrintMore
attribute [local go_sem] isSome_setCell_eq max2_int min2_int max_two min_two max_three min_three max_four min_four
set_option linter.unusedVariables false
set_option linter.unusedSimpArgs false
def hibernacleref10_Text.f (k : Nat) (a0_0 : Int) (a0_1 : Int) (a0_2 : Int) (a0_3 : Int) (a0_4 : Int) : Option (ByteArray) := (hibernacleref10_Enc.f k a0_0 a0_1 a0_2 a0_3 a0_4).bind fun bt287 => (if bt287.2 = 0 then ((hibernacleref10_names.f).bind fun t289 => (if 0 ≤ ((a0_0 - 1) % 256) then (if ((a0_0 - 1) % 256) < (t289.length : Int) then (if (rdOf ByteArray.empty t289 ((a0_0 - 1) % 256)).size + 1 ≤ 9223372036854775807 then ((hibernacleref10_Form.f k a0_0).bind fun t293 => (if t293 = 1 then ((hibernacleref10_reg.f k a0_1).bind fun t294 => (if ((rdOf ByteArray.empty t289 ((a0_0 - 1) % 256)) ++ (⟨#[32]⟩ : ByteArray)).size + t294.size ≤ 9223372036854775807 then (if (((rdOf ByteArray.empty t289 ((a0_0 - 1) % 256)) ++ (⟨#[32]⟩ : ByteArray)) ++ t294).size + 2 ≤ 9223372036854775807 then ((hibernacleref10_reg.f k a0_2).bind fun t295 => (if ((((rdOf ByteArray.empty t289 ((a0_0 - 1) % 256)) ++ (⟨#[32]⟩ : ByteArray)) ++ t294) ++ (⟨#[44, 32]⟩ : ByteArray)).size + t295.size ≤ 9223372036854775807 then (if (((((rdOf ByteArray.empty t289 ((a0_0 - 1) % 256)) ++ (⟨#[32]⟩ : ByteArray)) ++ t294) ++ (⟨#[44, 32]⟩ : ByteArray)) ++ t295).size + 2 ≤ 9223372036854775807 then ((hibernacleref10_reg.f k a0_3).bind fun t296 => (if ((((((rdOf ByteArray.empty t289 ((a0_0 - 1) % 256)) ++ (⟨#[32]⟩ : ByteArray)) ++ t294) ++ (⟨#[44, 32]⟩ : ByteArray)) ++ t295) ++ (⟨#[44, 32]⟩ : ByteArray)).size + t296.size ≤ 9223372036854775807 then (some (((((((rdOf ByteArray.empty t289 ((a0_0 - 1) % 256)) ++ (⟨#[32]⟩ : ByteArray)) ++ t294) ++ (⟨#[44, 32]⟩ : ByteArray)) ++ t295) ++ (⟨#[44, 32]⟩ : ByteArray)) ++ t296)) else (none))) else (none)) else (none))) else (none)) else (none))) else (if t293 = 2 then ((hibernacleref10_reg.f k a0_1).bind fun t297 => (if ((rdOf ByteArray.empty t289 ((a0_0 - 1) % 256)) ++ (⟨#[32]⟩ : ByteArray)).size + t297.size ≤ 9223372036854775807 then (if (((rdOf ByteArray.empty t289 ((a0_0 - 1) % 256)) ++ (⟨#[32]⟩ : ByteArray)) ++ t297).size + 2 ≤ 9223372036854775807 then ((hibernacleref10_reg.f k a0_2).bind fun t298 => (if ((((rdOf ByteArray.empty t289 ((a0_0 - 1) % 256)) ++ (⟨#[32]⟩ : ByteArray)) ++ t297) ++ (⟨#[44, 32]⟩ : ByteArray)).size + t298.size ≤ 9223372036854775807 then (if (((((rdOf ByteArray.empty t289 ((a0_0 - 1) % 256)) ++ (⟨#[32]⟩ : ByteArray)) ++ t297) ++ (⟨#[44, 32]⟩ : ByteArray)) ++ t298).size + 2 ≤ 9223372036854775807 then ((hibernacleref10_dec.f k a0_4).bind fun t299 => (if ((((((rdOf ByteArray.empty t289 ((a0_0 - 1) % 256)) ++ (⟨#[32]⟩ : ByteArray)) ++ t297) ++ (⟨#[44, 32]⟩ : ByteArray)) ++ t298) ++ (⟨#[44, 32]⟩ : ByteArray)).size + t299.size ≤ 9223372036854775807 then (some (((((((rdOf ByteArray.empty t289 ((a0_0 - 1) % 256)) ++ (⟨#[32]⟩ : ByteArray)) ++ t297) ++ (⟨#[44, 32]⟩ : ByteArray)) ++ t298) ++ (⟨#[44, 32]⟩ : ByteArray)) ++ t299)) else (none))) else (none)) else (none))) else (none)) else (none))) else (if t293 = 3 then ((hibernacleref10_reg.f k a0_1).bind fun t300 => (if ((rdOf ByteArray.empty t289 ((a0_0 - 1) % 256)) ++ (⟨#[32]⟩ : ByteArray)).size + t300.size ≤ 9223372036854775807 then (if (((rdOf ByteArray.empty t289 ((a0_0 - 1) % 256)) ++ (⟨#[32]⟩ : ByteArray)) ++ t300).size + 2 ≤ 9223372036854775807 then ((hibernacleref10_dec.f k a0_4).bind fun t301 => (if ((((rdOf ByteArray.empty t289 ((a0_0 - 1) % 256)) ++ (⟨#[32]⟩ : ByteArray)) ++ t300) ++ (⟨#[44, 32]⟩ : ByteArray)).size + t301.size ≤ 9223372036854775807 then (some (((((rdOf ByteArray.empty t289 ((a0_0 - 1) % 256)) ++ (⟨#[32]⟩ : ByteArray)) ++ t300) ++ (⟨#[44, 32]⟩ : ByteArray)) ++ t301)) else (none))) else (none)) else (none))) else (if t293 = 4 then ((hibernacleref10_reg.f k a0_1).bind fun t302 => (if ((rdOf ByteArray.empty t289 ((a0_0 - 1) % 256)) ++ (⟨#[32]⟩ : ByteArray)).size + t302.size ≤ 9223372036854775807 then (if (((rdOf ByteArray.empty t289 ((a0_0 - 1) % 256)) ++ (⟨#[32]⟩ : ByteArray)) ++ t302).size + 2 ≤ 9223372036854775807 then ((hibernacleref10_dec.f k a0_4).bind fun t303 => (if ((((rdOf ByteArray.empty t289 ((a0_0 - 1) % 256)) ++ (⟨#[32]⟩ : ByteArray)) ++ t302) ++ (⟨#[44, 32]⟩ : ByteArray)).size + t303.size ≤ 9223372036854775807 then (if (((((rdOf ByteArray.empty t289 ((a0_0 - 1) % 256)) ++ (⟨#[32]⟩ : ByteArray)) ++ t302) ++ (⟨#[44, 32]⟩ : ByteArray)) ++ t303).size + 1 ≤ 9223372036854775807 then ((hibernacleref10_reg.f k a0_2).bind fun t304 => (if ((((((rdOf ByteArray.empty t289 ((a0_0 - 1) % 256)) ++ (⟨#[32]⟩ : ByteArray)) ++ t302) ++ (⟨#[44, 32]⟩ : ByteArray)) ++ t303) ++ (⟨#[40]⟩ : ByteArray)).size + t304.size ≤ 9223372036854775807 then (if (((((((rdOf ByteArray.empty t289 ((a0_0 - 1) % 256)) ++ (⟨#[32]⟩ : ByteArray)) ++ t302) ++ (⟨#[44, 32]⟩ : ByteArray)) ++ t303) ++ (⟨#[40]⟩ : ByteArray)) ++ t304).size + 1 ≤ 9223372036854775807 then (some ((((((((rdOf ByteArray.empty t289 ((a0_0 - 1) % 256)) ++ (⟨#[32]⟩ : ByteArray)) ++ t302) ++ (⟨#[44, 32]⟩ : ByteArray)) ++ t303) ++ (⟨#[40]⟩ : ByteArray)) ++ t304) ++ (⟨#[41]⟩ : ByteArray))) else (none)) else (none))) else (none)) else (none))) else (none)) else (none))) else ((hibernacleref10_dec.f k a0_4).bind fun t305 => (if ((rdOf ByteArray.empty t289 ((a0_0 - 1) % 256)) ++ (⟨#[32]⟩ : ByteArray)).size + t305.size ≤ 9223372036854775807 then (some (((rdOf ByteArray.empty t289 ((a0_0 - 1) % 256)) ++ (⟨#[32]⟩ : ByteArray)) ++ t305)) else (none)))))))) else (none)) else (none)) else (none))) else (some (⟨#[]⟩ : ByteArray)))
theorem hibernacleref10_Text.mono : ∀ a0 a1 a2 a3 a4 k, LeO (hibernacleref10_Text.f k a0 a1 a2 a3 a4) (hibernacleref10_Text.f (k + 1) a0 a1 a2 a3 a4) := by
  intro a0 a1 a2 a3 a4 k
  unfold hibernacleref10_Text.f
  repeat' first
      | (with_reducible exact hibernacleref10_Enc.mono _ _ _ _ _ _)
      | (with_reducible exact hibernacleref10_Form.mono _ _)
      | (with_reducible exact hibernacleref10_dec.mono _ _)
      | (with_reducible exact hibernacleref10_reg.mono _ _)
      | (with_reducible exact LeO.refl _)
      | (with_reducible exact LeO.none _)
      | (with_reducible refine LeO.ite ?_ ?_)
      | (with_reducible refine LeO.bind ?_ (fun _ => ?_))
      | exact hibernacleref10_Enc.mono _ _ _ _ _ _
      | exact hibernacleref10_Form.mono _ _
      | exact hibernacleref10_dec.mono _ _
      | exact hibernacleref10_reg.mono _ _
      | exact LeO.none _
      | refine LeO.ite ?_ ?_
      | refine LeO.bind ?_ (fun _ => ?_)
def hibernacleref10_Text.T4 : Bool × List (List Nat × List Nat) := (true, [([], []), ([], []), ([1], [1]), ([2], [2]), ([0, 3], [0, 3]), ([4], [4]), ([5], [5]), ([6, 0, 0, 1, 2, 3, 4, 5, 6], [6])])
def hibernacleref10_Text.B4 : List Nat := [0, 0, 2, 6, 15, 31, 63, 127]
theorem hibernacleref10_Text.tab4 : rtab .any (opsOf Tryd.f16 4) = hibernacleref10_Text.T4 := by kernel_rfl
theorem hibernacleref10_Text.bits4 : waitsOk hibernacleref10_Text.T4.2 hibernacleref10_Text.B4 = true := by kernel_rfl
def hibernacleref10_Text.T7 : Bool × List (List Nat × List Nat) := (true, [([], []), ([], []), ([1], [1]), ([2], [2]), ([0, 3], [0, 3]), ([4], [4]), ([], []), ([6], [6]), ([7, 3], [7]), ([5, 8], [5, 8]), ([9], [9]), ([], []), ([11], [11]), ([12, 8], [12]), ([10, 13], [10, 13]), ([14, 13, 0, 1, 2, 3, 4, 5, 6, 7, 8, 9, 10, 11, 12, 13, 14], [14])])
def hibernacleref10_Text.B7 : List Nat := [0, 0, 2, 6, 15, 31, 0, 64, 206, 511, 1023, 0, 2048, 6606, 16383, 32767]
theorem hibernacleref10_Text.tab7 : rtab .any (opsOf Tryd.f16 7) = hibernacleref10_Text.T7 := by kernel_rfl
theorem hibernacleref10_Text.bits7 : waitsOk hibernacleref10_Text.T7.2 hibernacleref10_Text.B7 = true := by kernel_rfl
def hibernacleref10_Text.T9 : Bool × List (List Nat × List Nat) := (true, [([], []), ([], []), ([1], [1]), ([2], [2]), ([0, 3], [0, 3]), ([4], [4]), ([], []), ([6], [6]), ([7, 3], [7]), ([5, 8], [5, 8]), ([9], [9]), ([], []), ([11], [11]), ([12, 8], [12]), ([10, 13], [10, 13]), ([14, 13, 0, 1, 2, 3, 4, 5, 6, 7, 8, 9, 10, 11, 12, 13, 14], [14])])
def hibernacleref10_Text.B9 : List Nat := [0, 0, 2, 6, 15, 31, 0, 64, 206, 511, 1023, 0, 2048, 6606, 16383, 32767]
theorem hibernacleref10_Text.tab9 : rtab .any (opsOf Tryd.f16 9) = hibernacleref10_Text.T9 := by kernel_rfl
theorem hibernacleref10_Text.bits9 : waitsOk hibernacleref10_Text.T9.2 hibernacleref10_Text.B9 = true := by kernel_rfl
def hibernacleref10_Text.T11 : Bool × List (List Nat × List Nat) := (true, [([], []), ([], []), ([1], [1]), ([2], [2]), ([0, 3], [0, 3]), ([4], [4]), ([], []), ([6], [6]), ([7, 3], [7]), ([5, 8], [5, 8]), ([9, 8, 0, 1, 2, 3, 4, 5, 6, 7, 8, 9], [9])])
def hibernacleref10_Text.B11 : List Nat := [0, 0, 2, 6, 15, 31, 0, 64, 206, 511, 1023]
theorem hibernacleref10_Text.tab11 : rtab .any (opsOf Tryd.f16 11) = hibernacleref10_Text.T11 := by kernel_rfl
theorem hibernacleref10_Text.bits11 : waitsOk hibernacleref10_Text.T11.2 hibernacleref10_Text.B11 = true := by kernel_rfl
def hibernacleref10_Text.T13 : Bool × List (List Nat × List Nat) := (true, [([], []), ([], []), ([1], [1]), ([2], [2]), ([0, 3], [0, 3]), ([4], [4]), ([], []), ([6], [6]), ([7, 3], [7]), ([5, 8], [5, 8]), ([9], [9]), ([], []), ([11], [11]), ([12, 8], [12]), ([10, 13], [10, 13]), ([14], [14]), ([15, 13, 0, 1, 2, 3, 4, 5, 6, 7, 8, 9, 10, 11, 12, 13, 14, 15], [15])])
def hibernacleref10_Text.B13 : List Nat := [0, 0, 2, 6, 15, 31, 0, 64, 206, 511, 1023, 0, 2048, 6606, 16383, 32767, 65535]
theorem hibernacleref10_Text.tab13 : rtab .any (opsOf Tryd.f16 13) = hibernacleref10_Text.T13 := by kernel_rfl
theorem hibernacleref10_Text.bits13 : waitsOk hibernacleref10_Text.T13.2 hibernacleref10_Text.B13 = true := by kernel_rfl
set_option maxHeartbeats 8000000 in
set_option maxRecDepth 100000 in
theorem hibernacleref10_Text.calls (k : Nat) (a0_0 : Int) (a0_1 : Int) (a0_2 : Int) (a0_3 : Int) (a0_4 : Int) (r : ByteArray) (w : World) (h : hibernacleref10_Text.f k a0_0 a0_1 a0_2 a0_3 a0_4 = some r) :
    Calls Tryd.prog 16 #[.agg #[.int .u8 a0_0, .int .u8 a0_1, .int .u8 a0_2, .int .u8 a0_3, .int .i32 a0_4]] w fun e w' => e = .returned (.string r) ∧ Below w.heap.size w w' := by
  have hu23 := Tryd.underlying23
  have HB := Aside0.mk (Below.refl w.heap.size w)
  have H : ((hibernacleref10_Enc.f k a0_0 a0_1 a0_2 a0_3 a0_4).bind fun bt287 => (if bt287.2 = 0 then ((hibernacleref10_names.f).bind fun t289 => (if 0 ≤ ((a0_0 - 1) % 256) then (if ((a0_0 - 1) % 256) < (t289.length : Int) then (if (rdOf ByteArray.empty t289 ((a0_0 - 1) % 256)).size + 1 ≤ 9223372036854775807 then ((hibernacleref10_Form.f k a0_0).bind fun t293 => (if t293 = 1 then ((hibernacleref10_reg.f k a0_1).bind fun t294 => (if ((rdOf ByteArray.empty t289 ((a0_0 - 1) % 256)) ++ (⟨#[32]⟩ : ByteArray)).size + t294.size ≤ 9223372036854775807 then (if (((rdOf ByteArray.empty t289 ((a0_0 - 1) % 256)) ++ (⟨#[32]⟩ : ByteArray)) ++ t294).size + 2 ≤ 9223372036854775807 then ((hibernacleref10_reg.f k a0_2).bind fun t295 => (if ((((rdOf ByteArray.empty t289 ((a0_0 - 1) % 256)) ++ (⟨#[32]⟩ : ByteArray)) ++ t294) ++ (⟨#[44, 32]⟩ : ByteArray)).size + t295.size ≤ 9223372036854775807 then (if (((((rdOf ByteArray.empty t289 ((a0_0 - 1) % 256)) ++ (⟨#[32]⟩ : ByteArray)) ++ t294) ++ (⟨#[44, 32]⟩ : ByteArray)) ++ t295).size + 2 ≤ 9223372036854775807 then ((hibernacleref10_reg.f k a0_3).bind fun t296 => (if ((((((rdOf ByteArray.empty t289 ((a0_0 - 1) % 256)) ++ (⟨#[32]⟩ : ByteArray)) ++ t294) ++ (⟨#[44, 32]⟩ : ByteArray)) ++ t295) ++ (⟨#[44, 32]⟩ : ByteArray)).size + t296.size ≤ 9223372036854775807 then (some (((((((rdOf ByteArray.empty t289 ((a0_0 - 1) % 256)) ++ (⟨#[32]⟩ : ByteArray)) ++ t294) ++ (⟨#[44, 32]⟩ : ByteArray)) ++ t295) ++ (⟨#[44, 32]⟩ : ByteArray)) ++ t296)) else (none))) else (none)) else (none))) else (none)) else (none))) else (if t293 = 2 then ((hibernacleref10_reg.f k a0_1).bind fun t297 => (if ((rdOf ByteArray.empty t289 ((a0_0 - 1) % 256)) ++ (⟨#[32]⟩ : ByteArray)).size + t297.size ≤ 9223372036854775807 then (if (((rdOf ByteArray.empty t289 ((a0_0 - 1) % 256)) ++ (⟨#[32]⟩ : ByteArray)) ++ t297).size + 2 ≤ 9223372036854775807 then ((hibernacleref10_reg.f k a0_2).bind fun t298 => (if ((((rdOf ByteArray.empty t289 ((a0_0 - 1) % 256)) ++ (⟨#[32]⟩ : ByteArray)) ++ t297) ++ (⟨#[44, 32]⟩ : ByteArray)).size + t298.size ≤ 9223372036854775807 then (if (((((rdOf ByteArray.empty t289 ((a0_0 - 1) % 256)) ++ (⟨#[32]⟩ : ByteArray)) ++ t297) ++ (⟨#[44, 32]⟩ : ByteArray)) ++ t298).size + 2 ≤ 9223372036854775807 then ((hibernacleref10_dec.f k a0_4).bind fun t299 => (if ((((((rdOf ByteArray.empty t289 ((a0_0 - 1) % 256)) ++ (⟨#[32]⟩ : ByteArray)) ++ t297) ++ (⟨#[44, 32]⟩ : ByteArray)) ++ t298) ++ (⟨#[44, 32]⟩ : ByteArray)).size + t299.size ≤ 9223372036854775807 then (some (((((((rdOf ByteArray.empty t289 ((a0_0 - 1) % 256)) ++ (⟨#[32]⟩ : ByteArray)) ++ t297) ++ (⟨#[44, 32]⟩ : ByteArray)) ++ t298) ++ (⟨#[44, 32]⟩ : ByteArray)) ++ t299)) else (none))) else (none)) else (none))) else (none)) else (none))) else (if t293 = 3 then ((hibernacleref10_reg.f k a0_1).bind fun t300 => (if ((rdOf ByteArray.empty t289 ((a0_0 - 1) % 256)) ++ (⟨#[32]⟩ : ByteArray)).size + t300.size ≤ 9223372036854775807 then (if (((rdOf ByteArray.empty t289 ((a0_0 - 1) % 256)) ++ (⟨#[32]⟩ : ByteArray)) ++ t300).size + 2 ≤ 9223372036854775807 then ((hibernacleref10_dec.f k a0_4).bind fun t301 => (if ((((rdOf ByteArray.empty t289 ((a0_0 - 1) % 256)) ++ (⟨#[32]⟩ : ByteArray)) ++ t300) ++ (⟨#[44, 32]⟩ : ByteArray)).size + t301.size ≤ 9223372036854775807 then (some (((((rdOf ByteArray.empty t289 ((a0_0 - 1) % 256)) ++ (⟨#[32]⟩ : ByteArray)) ++ t300) ++ (⟨#[44, 32]⟩ : ByteArray)) ++ t301)) else (none))) else (none)) else (none))) else (if t293 = 4 then ((hibernacleref10_reg.f k a0_1).bind fun t302 => (if ((rdOf ByteArray.empty t289 ((a0_0 - 1) % 256)) ++ (⟨#[32]⟩ : ByteArray)).size + t302.size ≤ 9223372036854775807 then (if (((rdOf ByteArray.empty t289 ((a0_0 - 1) % 256)) ++ (⟨#[32]⟩ : ByteArray)) ++ t302).size + 2 ≤ 9223372036854775807 then ((hibernacleref10_dec.f k a0_4).bind fun t303 => (if ((((rdOf ByteArray.empty t289 ((a0_0 - 1) % 256)) ++ (⟨#[32]⟩ : ByteArray)) ++ t302) ++ (⟨#[44, 32]⟩ : ByteArray)).size + t303.size ≤ 9223372036854775807 then (if (((((rdOf ByteArray.empty t289 ((a0_0 - 1) % 256)) ++ (⟨#[32]⟩ : ByteArray)) ++ t302) ++ (⟨#[44, 32]⟩ : ByteArray)) ++ t303).size + 1 ≤ 9223372036854775807 then ((hibernacleref10_reg.f k a0_2).bind fun t304 => (if ((((((rdOf ByteArray.empty t289 ((a0_0 - 1) % 256)) ++ (⟨#[32]⟩ : ByteArray)) ++ t302) ++ (⟨#[44, 32]⟩ : ByteArray)) ++ t303) ++ (⟨#[40]⟩ : ByteArray)).size + t304.size ≤ 9223372036854775807 then (if (((((((rdOf ByteArray.empty t289 ((a0_0 - 1) % 256)) ++ (⟨#[32]⟩ : ByteArray)) ++ t302) ++ (⟨#[44, 32]⟩ : ByteArray)) ++ t303) ++ (⟨#[40]⟩ : ByteArray)) ++ t304).size + 1 ≤ 9223372036854775807 then (some ((((((((rdOf ByteArray.empty t289 ((a0_0 - 1) % 256)) ++ (⟨#[32]⟩ : ByteArray)) ++ t302) ++ (⟨#[44, 32]⟩ : ByteArray)) ++ t303) ++ (⟨#[40]⟩ : ByteArray)) ++ t304) ++ (⟨#[41]⟩ : ByteArray))) else (none)) else (none))) else (none)) else (none))) else (none)) else (none))) else ((hibernacleref10_dec.f k a0_4).bind fun t305 => (if ((rdOf ByteArray.empty t289 ((a0_0 - 1) % 256)) ++ (⟨#[32]⟩ : ByteArray)).size + t305.size ≤ 9223372036854775807 then (some (((rdOf ByteArray.empty t289 ((a0_0 - 1) % 256)) ++ (⟨#[32]⟩ : ByteArray)) ++ t305)) else (none)))))))) else (none)) else (none)) else (none))) else (some (⟨#[]⟩ : ByteArray)))) = some r := h
  clear h
  replace H := Option.bind_eq_some_iff.mp H
  obtain ⟨⟨t287, t288⟩, A20, H⟩ := H
  replace H : (if t288 = 0 then ((hibernacleref10_names.f).bind fun t289 => (if 0 ≤ ((a0_0 - 1) % 256) then (if ((a0_0 - 1) % 256) < (t289.length : Int) then (if (rdOf ByteArray.empty t289 ((a0_0 - 1) % 256)).size + 1 ≤ 9223372036854775807 then ((hibernacleref10_Form.f k a0_0).bind fun t293 => (if t293 = 1 then ((hibernacleref10_reg.f k a0_1).bind fun t294 => (if ((rdOf ByteArray.empty t289 ((a0_0 - 1) % 256)) ++ (⟨#[32]⟩ : ByteArray)).size + t294.size ≤ 9223372036854775807 then (if (((rdOf ByteArray.empty t289 ((a0_0 - 1) % 256)) ++ (⟨#[32]⟩ : ByteArray)) ++ t294).size + 2 ≤ 9223372036854775807 then ((hibernacleref10_reg.f k a0_2).bind fun t295 => (if ((((rdOf ByteArray.empty t289 ((a0_0 - 1) % 256)) ++ (⟨#[32]⟩ : ByteArray)) ++ t294) ++ (⟨#[44, 32]⟩ : ByteArray)).size + t295.size ≤ 9223372036854775807 then (if (((((rdOf ByteArray.empty t289 ((a0_0 - 1) % 256)) ++ (⟨#[32]⟩ : ByteArray)) ++ t294) ++ (⟨#[44, 32]⟩ : ByteArray)) ++ t295).size + 2 ≤ 9223372036854775807 then ((hibernacleref10_reg.f k a0_3).bind fun t296 => (if ((((((rdOf ByteArray.empty t289 ((a0_0 - 1) % 256)) ++ (⟨#[32]⟩ : ByteArray)) ++ t294) ++ (⟨#[44, 32]⟩ : ByteArray)) ++ t295) ++ (⟨#[44, 32]⟩ : ByteArray)).size + t296.size ≤ 9223372036854775807 then (some (((((((rdOf ByteArray.empty t289 ((a0_0 - 1) % 256)) ++ (⟨#[32]⟩ : ByteArray)) ++ t294) ++ (⟨#[44, 32]⟩ : ByteArray)) ++ t295) ++ (⟨#[44, 32]⟩ : ByteArray)) ++ t296)) else (none))) else (none)) else (none))) else (none)) else (none))) else (if t293 = 2 then ((hibernacleref10_reg.f k a0_1).bind fun t297 => (if ((rdOf ByteArray.empty t289 ((a0_0 - 1) % 256)) ++ (⟨#[32]⟩ : ByteArray)).size + t297.size ≤ 9223372036854775807 then (if (((rdOf ByteArray.empty t289 ((a0_0 - 1) % 256)) ++ (⟨#[32]⟩ : ByteArray)) ++ t297).size + 2 ≤ 9223372036854775807 then ((hibernacleref10_reg.f k a0_2).bind fun t298 => (if ((((rdOf ByteArray.empty t289 ((a0_0 - 1) % 256)) ++ (⟨#[32]⟩ : ByteArray)) ++ t297) ++ (⟨#[44, 32]⟩ : ByteArray)).size + t298.size ≤ 9223372036854775807 then (if (((((rdOf ByteArray.empty t289 ((a0_0 - 1) % 256)) ++ (⟨#[32]⟩ : ByteArray)) ++ t297) ++ (⟨#[44, 32]⟩ : ByteArray)) ++ t298).size + 2 ≤ 9223372036854775807 then ((hibernacleref10_dec.f k a0_4).bind fun t299 => (if ((((((rdOf ByteArray.empty t289 ((a0_0 - 1) % 256)) ++ (⟨#[32]⟩ : ByteArray)) ++ t297) ++ (⟨#[44, 32]⟩ : ByteArray)) ++ t298) ++ (⟨#[44, 32]⟩ : ByteArray)).size + t299.size ≤ 9223372036854775807 then (some (((((((rdOf ByteArray.empty t289 ((a0_0 - 1) % 256)) ++ (⟨#[32]⟩ : ByteArray)) ++ t297) ++ (⟨#[44, 32]⟩ : ByteArray)) ++ t298) ++ (⟨#[44, 32]⟩ : ByteArray)) ++ t299)) else (none))) else (none)) else (none))) else (none)) else (none))) else (if t293 = 3 then ((hibernacleref10_reg.f k a0_1).bind fun t300 => (if ((rdOf ByteArray.empty t289 ((a0_0 - 1) % 256)) ++ (⟨#[32]⟩ : ByteArray)).size + t300.size ≤ 9223372036854775807 then (if (((rdOf ByteArray.empty t289 ((a0_0 - 1) % 256)) ++ (⟨#[32]⟩ : ByteArray)) ++ t300).size + 2 ≤ 9223372036854775807 then ((hibernacleref10_dec.f k a0_4).bind fun t301 => (if ((((rdOf ByteArray.empty t289 ((a0_0 - 1) % 256)) ++ (⟨#[32]⟩ : ByteArray)) ++ t300) ++ (⟨#[44, 32]⟩ : ByteArray)).size + t301.size ≤ 9223372036854775807 then (some (((((rdOf ByteArray.empty t289 ((a0_0 - 1) % 256)) ++ (⟨#[32]⟩ : ByteArray)) ++ t300) ++ (⟨#[44, 32]⟩ : ByteArray)) ++ t301)) else (none))) else (none)) else (none))) else (if t293 = 4 then ((hibernacleref10_reg.f k a0_1).bind fun t302 => (if ((rdOf ByteArray.empty t289 ((a0_0 - 1) % 256)) ++ (⟨#[32]⟩ : ByteArray)).size + t302.size ≤ 9223372036854775807 then (if (((rdOf ByteArray.empty t289 ((a0_0 - 1) % 256)) ++ (⟨#[32]⟩ : ByteArray)) ++ t302).size + 2 ≤ 9223372036854775807 then ((hibernacleref10_dec.f k a0_4).bind fun t303 => (if ((((rdOf ByteArray.empty t289 ((a0_0 - 1) % 256)) ++ (⟨#[32]⟩ : ByteArray)) ++ t302) ++ (⟨#[44, 32]⟩ : ByteArray)).size + t303.size ≤ 9223372036854775807 then (if (((((rdOf ByteArray.empty t289 ((a0_0 - 1) % 256)) ++ (⟨#[32]⟩ : ByteArray)) ++ t302) ++ (⟨#[44, 32]⟩ : ByteArray)) ++ t303).size + 1 ≤ 9223372036854775807 then ((hibernacleref10_reg.f k a0_2).bind fun t304 => (if ((((((rdOf ByteArray.empty t289 ((a0_0 - 1) % 256)) ++ (⟨#[32]⟩ : ByteArray)) ++ t302) ++ (⟨#[44, 32]⟩ : ByteArray)) ++ t303) ++ (⟨#[40]⟩ : ByteArray)).size + t304.size ≤ 9223372036854775807 then (if (((((((rdOf ByteArray.empty t289 ((a0_0 - 1) % 256)) ++ (⟨#[32]⟩ : ByteArray)) ++ t302) ++ (⟨#[44, 32]⟩ : ByteArray)) ++ t303) ++ (⟨#[40]⟩ : ByteArray)) ++ t304).size + 1 ≤ 9223372036854775807 then (some ((((((((rdOf ByteArray.empty t289 ((a0_0 - 1) % 256)) ++ (⟨#[32]⟩ : ByteArray)) ++ t302) ++ (⟨#[44, 32]⟩ : ByteArray)) ++ t303) ++ (⟨#[40]⟩ : ByteArray)) ++ t304) ++ (⟨#[41]⟩ : ByteArray))) else (none)) else (none))) else (none)) else (none))) else (none)) else (none))) else ((hibernacleref10_dec.f k a0_4).bind fun t305 => (if ((rdOf ByteArray.empty t289 ((a0_0 - 1) % 256)) ++ (⟨#[32]⟩ : ByteArray)).size + t305.size ≤ 9223372036854775807 then (some (((rdOf ByteArray.empty t289 ((a0_0 - 1) % 256)) ++ (⟨#[32]⟩ : ByteArray)) ++ t305)) else (none)))))))) else (none)) else (none)) else (none))) else (some (⟨#[]⟩ : ByteArray))) = some r := H
  have A2 := Aside0.mk A20
  clear A20
  by_cases c3 : t288 = 0
  · rw [if_pos c3] at H
    have c3b0 : (t288 == 0) = true := beq_iff_eq.mpr c3
    have c3b1 : (t288 != 0) = false := bne_eq_false_iff_eq.mpr c3
    clear c3
    replace H := Option.bind_eq_some_iff.mp H
    obtain ⟨t289, A40, H⟩ := H
    replace H : (if 0 ≤ ((a0_0 - 1) % 256) then (if ((a0_0 - 1) % 256) < (t289.length : Int) then (if (rdOf ByteArray.empty t289 ((a0_0 - 1) % 256)).size + 1 ≤ 9223372036854775807 then ((hibernacleref10_Form.f k a0_0).bind fun t293 => (if t293 = 1 then ((hibernacleref10_reg.f k a0_1).bind fun t294 => (if ((rdOf ByteArray.empty t289 ((a0_0 - 1) % 256)) ++ (⟨#[32]⟩ : ByteArray)).size + t294.size ≤ 9223372036854775807 then (if (((rdOf ByteArray.empty t289 ((a0_0 - 1) % 256)) ++ (⟨#[32]⟩ : ByteArray)) ++ t294).size + 2 ≤ 9223372036854775807 then ((hibernacleref10_reg.f k a0_2).bind fun t295 => (if ((((rdOf ByteArray.empty t289 ((a0_0 - 1) % 256)) ++ (⟨#[32]⟩ : ByteArray)) ++ t294) ++ (⟨#[44, 32]⟩ : ByteArray)).size + t295.size ≤ 9223372036854775807 then (if (((((rdOf ByteArray.empty t289 ((a0_0 - 1) % 256)) ++ (⟨#[32]⟩ : ByteArray)) ++ t294) ++ (⟨#[44, 32]⟩ : ByteArray)) ++ t295).size + 2 ≤ 9223372036854775807 then ((hibernacleref10_reg.f k a0_3).bind fun t296 => (if ((((((rdOf ByteArray.empty t289 ((a0_0 - 1) % 256)) ++ (⟨#[32]⟩ : ByteArray)) ++ t294) ++ (⟨#[44, 32]⟩ : ByteArray)) ++ t295) ++ (⟨#[44, 32]⟩ : ByteArray)).size + t296.size ≤ 9223372036854775807 then (some (((((((rdOf ByteArray.empty t289 ((a0_0 - 1) % 256)) ++ (⟨#[32]⟩ : ByteArray)) ++ t294) ++ (⟨#[44, 32]⟩ : ByteArray)) ++ t295) ++ (⟨#[44, 32]⟩ : ByteArray)) ++ t296)) else (none))) else (none)) else (none))) else (none)) else (none))) else (if t293 = 2 then ((hibernacleref10_reg.f k a0_1).bind fun t297 => (if ((rdOf ByteArray.empty t289 ((a0_0 - 1) % 256)) ++ (⟨#[32]⟩ : ByteArray)).size + t297.size ≤ 9223372036854775807 then (if (((rdOf ByteArray.empty t289 ((a0_0 - 1) % 256)) ++ (⟨#[32]⟩ : ByteArray)) ++ t297).size + 2 ≤ 9223372036854775807 then ((hibernacleref10_reg.f k a0_2).bind fun t298 => (if ((((rdOf ByteArray.empty t289 ((a0_0 - 1) % 256)) ++ (⟨#[32]⟩ : ByteArray)) ++ t297) ++ (⟨#[44, 32]⟩ : ByteArray)).size + t298.size ≤ 9223372036854775807 then (if (((((rdOf ByteArray.empty t289 ((a0_0 - 1) % 256)) ++ (⟨#[32]⟩ : ByteArray)) ++ t297) ++ (⟨#[44, 32]⟩ : ByteArray)) ++ t298).size + 2 ≤ 9223372036854775807 then ((hibernacleref10_dec.f k a0_4).bind fun t299 => (if ((((((rdOf ByteArray.empty t289 ((a0_0 - 1) % 256)) ++ (⟨#[32]⟩ : ByteArray)) ++ t297) ++ (⟨#[44, 32]⟩ : ByteArray)) ++ t298) ++ (⟨#[44, 32]⟩ : ByteArray)).size + t299.size ≤ 9223372036854775807 then (some (((((((rdOf ByteArray.empty t289 ((a0_0 - 1) % 256)) ++ (⟨#[32]⟩ : ByteArray)) ++ t297) ++ (⟨#[44, 32]⟩ : ByteArray)) ++ t298) ++ (⟨#[44, 32]⟩ : ByteArray)) ++ t299)) else (none))) else (none)) else (none))) else (none)) else (none))) else (if t293 = 3 then ((hibernacleref10_reg.f k a0_1).bind fun t300 => (if ((rdOf ByteArray.empty t289 ((a0_0 - 1) % 256)) ++ (⟨#[32]⟩ : ByteArray)).size + t300.size ≤ 9223372036854775807 then (if (((rdOf ByteArray.empty t289 ((a0_0 - 1) % 256)) ++ (⟨#[32]⟩ : ByteArray)) ++ t300).size + 2 ≤ 9223372036854775807 then ((hibernacleref10_dec.f k a0_4).bind fun t301 => (if ((((rdOf ByteArray.empty t289 ((a0_0 - 1) % 256)) ++ (⟨#[32]⟩ : ByteArray)) ++ t300) ++ (⟨#[44, 32]⟩ : ByteArray)).size + t301.size ≤ 9223372036854775807 then (some (((((rdOf ByteArray.empty t289 ((a0_0 - 1) % 256)) ++ (⟨#[32]⟩ : ByteArray)) ++ t300) ++ (⟨#[44, 32]⟩ : ByteArray)) ++ t301)) else (none))) else (none)) else (none))) else (if t293 = 4 then ((hibernacleref10_reg.f k a0_1).bind fun t302 => (if ((rdOf ByteArray.empty t289 ((a0_0 - 1) % 256)) ++ (⟨#[32]⟩ : ByteArray)).size + t302.size ≤ 9223372036854775807 then (if (((rdOf ByteArray.empty t289 ((a0_0 - 1) % 256)) ++ (⟨#[32]⟩ : ByteArray)) ++ t302).size + 2 ≤ 9223372036854775807 then ((hibernacleref10_dec.f k a0_4).bind fun t303 => (if ((((rdOf ByteArray.empty t289 ((a0_0 - 1) % 256)) ++ (⟨#[32]⟩ : ByteArray)) ++ t302) ++ (⟨#[44, 32]⟩ : ByteArray)).size + t303.size ≤ 9223372036854775807 then (if (((((rdOf ByteArray.empty t289 ((a0_0 - 1) % 256)) ++ (⟨#[32]⟩ : ByteArray)) ++ t302) ++ (⟨#[44, 32]⟩ : ByteArray)) ++ t303).size + 1 ≤ 9223372036854775807 then ((hibernacleref10_reg.f k a0_2).bind fun t304 => (if ((((((rdOf ByteArray.empty t289 ((a0_0 - 1) % 256)) ++ (⟨#[32]⟩ : ByteArray)) ++ t302) ++ (⟨#[44, 32]⟩ : ByteArray)) ++ t303) ++ (⟨#[40]⟩ : ByteArray)).size + t304.size ≤ 9223372036854775807 then (if (((((((rdOf ByteArray.empty t289 ((a0_0 - 1) % 256)) ++ (⟨#[32]⟩ : ByteArray)) ++ t302) ++ (⟨#[44, 32]⟩ : ByteArray)) ++ t303) ++ (⟨#[40]⟩ : ByteArray)) ++ t304).size + 1 ≤ 9223372036854775807 then (some ((((((((rdOf ByteArray.empty t289 ((a0_0 - 1) % 256)) ++ (⟨#[32]⟩ : ByteArray)) ++ t302) ++ (⟨#[44, 32]⟩ : ByteArray)) ++ t303) ++ (⟨#[40]⟩ : ByteArray)) ++ t304) ++ (⟨#[41]⟩ : ByteArray))) else (none)) else (none))) else (none)) else (none))) else (none)) else (none))) else ((hibernacleref10_dec.f k a0_4).bind fun t305 => (if ((rdOf ByteArray.empty t289 ((a0_0 - 1) % 256)) ++ (⟨#[32]⟩ : ByteArray)).size + t305.size ≤ 9223372036854775807 then (some (((rdOf ByteArray.empty t289 ((a0_0 - 1) % 256)) ++ (⟨#[32]⟩ : ByteArray)) ++ t305)) else (none)))))))) else (none)) else (none)) else (none)) = some r := H
    have A4 := Aside0.mk A40
    clear A40
    obtain ⟨ji5, hji5⟩ : ∃ j_ : Int, ((a0_0 - 1) % 256) = j_ := ⟨_, rfl⟩
    have hji5w : IntKind.u8.wrap (a0_0 - 1) = ji5 := (IntKind.wrap_u8 _).trans hji5
    replace H : (if 0 ≤ (ji5) then (if (ji5) < (t289.length : Int) then (if (rdOf ByteArray.empty t289 (ji5)).size + 1 ≤ 9223372036854775807 then ((hibernacleref10_Form.f k a0_0).bind fun t293 => (if t293 = 1 then ((hibernacleref10_reg.f k a0_1).bind fun t294 => (if ((rdOf ByteArray.empty t289 (ji5)) ++ (⟨#[32]⟩ : ByteArray)).size + t294.size ≤ 9223372036854775807 then (if (((rdOf ByteArray.empty t289 (ji5)) ++ (⟨#[32]⟩ : ByteArray)) ++ t294).size + 2 ≤ 9223372036854775807 then ((hibernacleref10_reg.f k a0_2).bind fun t295 => (if ((((rdOf ByteArray.empty t289 (ji5)) ++ (⟨#[32]⟩ : ByteArray)) ++ t294) ++ (⟨#[44, 32]⟩ : ByteArray)).size + t295.size ≤ 9223372036854775807 then (if (((((rdOf ByteArray.empty t289 (ji5)) ++ (⟨#[32]⟩ : ByteArray)) ++ t294) ++ (⟨#[44, 32]⟩ : ByteArray)) ++ t295).size + 2 ≤ 9223372036854775807 then ((hibernacleref10_reg.f k a0_3).bind fun t296 => (if ((((((rdOf ByteArray.empty t289 (ji5)) ++ (⟨#[32]⟩ : ByteArray)) ++ t294) ++ (⟨#[44, 32]⟩ : ByteArray)) ++ t295) ++ (⟨#[44, 32]⟩ : ByteArray)).size + t296.size ≤ 9223372036854775807 then (some (((((((rdOf ByteArray.empty t289 (ji5)) ++ (⟨#[32]⟩ : ByteArray)) ++ t294) ++ (⟨#[44, 32]⟩ : ByteArray)) ++ t295) ++ (⟨#[44, 32]⟩ : ByteArray)) ++ t296)) else (none))) else (none)) else (none))) else (none)) else (none))) else (if t293 = 2 then ((hibernacleref10_reg.f k a0_1).bind fun t297 => (if ((rdOf ByteArray.empty t289 (ji5)) ++ (⟨#[32]⟩ : ByteArray)).size + t297.size ≤ 9223372036854775807 then (if (((rdOf ByteArray.empty t289 (ji5)) ++ (⟨#[32]⟩ : ByteArray)) ++ t297).size + 2 ≤ 9223372036854775807 then ((hibernacleref10_reg.f k a0_2).bind fun t298 => (if ((((rdOf ByteArray.empty t289 (ji5)) ++ (⟨#[32]⟩ : ByteArray)) ++ t297) ++ (⟨#[44, 32]⟩ : ByteArray)).size + t298.size ≤ 9223372036854775807 then (if (((((rdOf ByteArray.empty t289 (ji5)) ++ (⟨#[32]⟩ : ByteArray)) ++ t297) ++ (⟨#[44, 32]⟩ : ByteArray)) ++ t298).size + 2 ≤ 9223372036854775807 then ((hibernacleref10_dec.f k a0_4).bind fun t299 => (if ((((((rdOf ByteArray.empty t289 (ji5)) ++ (⟨#[32]⟩ : ByteArray)) ++ t297) ++ (⟨#[44, 32]⟩ : ByteArray)) ++ t298) ++ (⟨#[44, 32]⟩ : ByteArray)).size + t299.size ≤ 9223372036854775807 then (some (((((((rdOf ByteArray.empty t289 (ji5)) ++ (⟨#[32]⟩ : ByteArray)) ++ t297) ++ (⟨#[44, 32]⟩ : ByteArray)) ++ t298) ++ (⟨#[44, 32]⟩ : ByteArray)) ++ t299)) else (none))) else (none)) else (none))) else (none)) else (none))) else (if t293 = 3 then ((hibernacleref10_reg.f k a0_1).bind fun t300 => (if ((rdOf ByteArray.empty t289 (ji5)) ++ (⟨#[32]⟩ : ByteArray)).size + t300.size ≤ 9223372036854775807 then (if (((rdOf ByteArray.empty t289 (ji5)) ++ (⟨#[32]⟩ : ByteArray)) ++ t300).size + 2 ≤ 9223372036854775807 then ((hibernacleref10_dec.f k a0_4).bind fun t301 => (if ((((rdOf ByteArray.empty t289 (ji5)) ++ (⟨#[32]⟩ : ByteArray)) ++ t300) ++ (⟨#[44, 32]⟩ : ByteArray)).size + t301.size ≤ 9223372036854775807 then (some (((((rdOf ByteArray.empty t289 (ji5)) ++ (⟨#[32]⟩ : ByteArray)) ++ t300) ++ (⟨#[44, 32]⟩ : ByteArray)) ++ t301)) else (none))) else (none)) else (none))) else (if t293 = 4 then ((hibernacleref10_reg.f k a0_1).bind fun t302 => (if ((rdOf ByteArray.empty t289 (ji5)) ++ (⟨#[32]⟩ : ByteArray)).size + t302.size ≤ 9223372036854775807 then (if (((rdOf ByteArray.empty t289 (ji5)) ++ (⟨#[32]⟩ : ByteArray)) ++ t302).size + 2 ≤ 9223372036854775807 then ((hibernacleref10_dec.f k a0_4).bind fun t303 => (if ((((rdOf ByteArray.empty t289 (ji5)) ++ (⟨#[32]⟩ : ByteArray)) ++ t302) ++ (⟨#[44, 32]⟩ : ByteArray)).size + t303.size ≤ 9223372036854775807 then (if (((((rdOf ByteArray.empty t289 (ji5)) ++ (⟨#[32]⟩ : ByteArray)) ++ t302) ++ (⟨#[44, 32]⟩ : ByteArray)) ++ t303).size + 1 ≤ 9223372036854775807 then ((hibernacleref10_reg.f k a0_2).bind fun t304 => (if ((((((rdOf ByteArray.empty t289 (ji5)) ++ (⟨#[32]⟩ : ByteArray)) ++ t302) ++ (⟨#[44, 32]⟩ : ByteArray)) ++ t303) ++ (⟨#[40]⟩ : ByteArray)).size + t304.size ≤ 9223372036854775807 then (if (((((((rdOf ByteArray.empty t289 (ji5)) ++ (⟨#[32]⟩ : ByteArray)) ++ t302) ++ (⟨#[44, 32]⟩ : ByteArray)) ++ t303) ++ (⟨#[40]⟩ : ByteArray)) ++ t304).size + 1 ≤ 9223372036854775807 then (some ((((((((rdOf ByteArray.empty t289 (ji5)) ++ (⟨#[32]⟩ : ByteArray)) ++ t302) ++ (⟨#[44, 32]⟩ : ByteArray)) ++ t303) ++ (⟨#[40]⟩ : ByteArray)) ++ t304) ++ (⟨#[41]⟩ : ByteArray))) else (none)) else (none))) else (none)) else (none))) else (none)) else (none))) else ((hibernacleref10_dec.f k a0_4).bind fun t305 => (if ((rdOf ByteArray.empty t289 (ji5)) ++ (⟨#[32]⟩ : ByteArray)).size + t305.size ≤ 9223372036854775807 then (some (((rdOf ByteArray.empty t289 (ji5)) ++ (⟨#[32]⟩ : ByteArray)) ++ t305)) else (none)))))))) else (none)) else (none)) else (none)) = some r := by first | (rw [hji5] at H; exact H) | (simp only [hji5] at H ⊢; exact H)
    (try rw [hji5] at A2)
    (try rw [hji5] at A4)
    by_cases c6 : 0 ≤ (ji5)
    · rw [if_pos c6] at H
      have c6b0 : decide (0 ≤ (ji5)) = true := decide_eq_true c6
      clear c6
      by_cases c7 : (ji5) < (t289.length : Int)
      · rw [if_pos c7] at H
        have c7b0 : decide ((ji5) < (t289.length : Int)) = true := decide_eq_true c7
        clear c7
        by_cases c8 : (rdOf ByteArray.empty t289 (ji5)).size + 1 ≤ 9223372036854775807
        · rw [if_pos c8] at H
          have c8b0 := eq_true c8
          have c8b1 : decide ((rdOf ByteArray.empty t289 (ji5)).size + 1 ≤ 9223372036854775807) = true := decide_eq_true c8
          try have c8b2 : (9223372036854775807 < (rdOf ByteArray.empty t289 (ji5)).size + 1) = False := eq_false (Nat.not_lt.2 c8)
          replace H := Option.bind_eq_some_iff.mp H
          obtain ⟨t293, A90, H⟩ := H
          replace H : (if t293 = 1 then ((hibernacleref10_reg.f k a0_1).bind fun t294 => (if ((rdOf ByteArray.empty t289 (ji5)) ++ (⟨#[32]⟩ : ByteArray)).size + t294.size ≤ 9223372036854775807 then (if (((rdOf ByteArray.empty t289 (ji5)) ++ (⟨#[32]⟩ : ByteArray)) ++ t294).size + 2 ≤ 9223372036854775807 then ((hibernacleref10_reg.f k a0_2).bind fun t295 => (if ((((rdOf ByteArray.empty t289 (ji5)) ++ (⟨#[32]⟩ : ByteArray)) ++ t294) ++ (⟨#[44, 32]⟩ : ByteArray)).size + t295.size ≤ 9223372036854775807 then (if (((((rdOf ByteArray.empty t289 (ji5)) ++ (⟨#[32]⟩ : ByteArray)) ++ t294) ++ (⟨#[44, 32]⟩ : ByteArray)) ++ t295).size + 2 ≤ 9223372036854775807 then ((hibernacleref10_reg.f k a0_3).bind fun t296 => (if ((((((rdOf ByteArray.empty t289 (ji5)) ++ (⟨#[32]⟩ : ByteArray)) ++ t294) ++ (⟨#[44, 32]⟩ : ByteArray)) ++ t295) ++ (⟨#[44, 32]⟩ : ByteArray)).size + t296.size ≤ 9223372036854775807 then (some (((((((rdOf ByteArray.empty t289 (ji5)) ++ (⟨#[32]⟩ : ByteArray)) ++ t294) ++ (⟨#[44, 32]⟩ : ByteArray)) ++ t295) ++ (⟨#[44, 32]⟩ : ByteArray)) ++ t296)) else (none))) else (none)) else (none))) else (none)) else (none))) else (if t293 = 2 then ((hibernacleref10_reg.f k a0_1).bind fun t297 => (if ((rdOf ByteArray.empty t289 (ji5)) ++ (⟨#[32]⟩ : ByteArray)).size + t297.size ≤ 9223372036854775807 then (if (((rdOf ByteArray.empty t289 (ji5)) ++ (⟨#[32]⟩ : ByteArray)) ++ t297).size + 2 ≤ 9223372036854775807 then ((hibernacleref10_reg.f k a0_2).bind fun t298 => (if ((((rdOf ByteArray.empty t289 (ji5)) ++ (⟨#[32]⟩ : ByteArray)) ++ t297) ++ (⟨#[44, 32]⟩ : ByteArray)).size + t298.size ≤ 9223372036854775807 then (if (((((rdOf ByteArray.empty t289 (ji5)) ++ (⟨#[32]⟩ : ByteArray)) ++ t297) ++ (⟨#[44, 32]⟩ : ByteArray)) ++ t298).size + 2 ≤ 9223372036854775807 then ((hibernacleref10_dec.f k a0_4).bind fun t299 => (if ((((((rdOf ByteArray.empty t289 (ji5)) ++ (⟨#[32]⟩ : ByteArray)) ++ t297) ++ (⟨#[44, 32]⟩ : ByteArray)) ++ t298) ++ (⟨#[44, 32]⟩ : ByteArray)).size + t299.size ≤ 9223372036854775807 then (some (((((((rdOf ByteArray.empty t289 (ji5)) ++ (⟨#[32]⟩ : ByteArray)) ++ t297) ++ (⟨#[44, 32]⟩ : ByteArray)) ++ t298) ++ (⟨#[44, 32]⟩ : ByteArray)) ++ t299)) else (none))) else (none)) else (none))) else (none)) else (none))) else (if t293 = 3 then ((hibernacleref10_reg.f k a0_1).bind fun t300 => (if ((rdOf ByteArray.empty t289 (ji5)) ++ (⟨#[32]⟩ : ByteArray)).size + t300.size ≤ 9223372036854775807 then (if (((rdOf ByteArray.empty t289 (ji5)) ++ (⟨#[32]⟩ : ByteArray)) ++ t300).size + 2 ≤ 9223372036854775807 then ((hibernacleref10_dec.f k a0_4).bind fun t301 => (if ((((rdOf ByteArray.empty t289 (ji5)) ++ (⟨#[32]⟩ : ByteArray)) ++ t300) ++ (⟨#[44, 32]⟩ : ByteArray)).size + t301.size ≤ 9223372036854775807 then (some (((((rdOf ByteArray.empty t289 (ji5)) ++ (⟨#[32]⟩ : ByteArray)) ++ t300) ++ (⟨#[44, 32]⟩ : ByteArray)) ++ t301)) else (none))) else (none)) else (none))) else (if t293 = 4 then ((hibernacleref10_reg.f k a0_1).bind fun t302 => (if ((rdOf ByteArray.empty t289 (ji5)) ++ (⟨#[32]⟩ : ByteArray)).size + t302.size ≤ 9223372036854775807 then (if (((rdOf ByteArray.empty t289 (ji5)) ++ (⟨#[32]⟩ : ByteArray)) ++ t302).size + 2 ≤ 9223372036854775807 then ((hibernacleref10_dec.f k a0_4).bind fun t303 => (if ((((rdOf ByteArray.empty t289 (ji5)) ++ (⟨#[32]⟩ : ByteArray)) ++ t302) ++ (⟨#[44, 32]⟩ : ByteArray)).size + t303.size ≤ 9223372036854775807 then (if (((((rdOf ByteArray.empty t289 (ji5)) ++ (⟨#[32]⟩ : ByteArray)) ++ t302) ++ (⟨#[44, 32]⟩ : ByteArray)) ++ t303).size + 1 ≤ 9223372036854775807 then ((hibernacleref10_reg.f k a0_2).bind fun t304 => (if ((((((rdOf ByteArray.empty t289 (ji5)) ++ (⟨#[32]⟩ : ByteArray)) ++ t302) ++ (⟨#[44, 32]⟩ : ByteArray)) ++ t303) ++ (⟨#[40]⟩ : ByteArray)).size + t304.size ≤ 9223372036854775807 then (if (((((((rdOf ByteArray.empty t289 (ji5)) ++ (⟨#[32]⟩ : ByteArray)) ++ t302) ++ (⟨#[44, 32]⟩ : ByteArray)) ++ t303) ++ (⟨#[40]⟩ : ByteArray)) ++ t304).size + 1 ≤ 9223372036854775807 then (some ((((((((rdOf ByteArray.empty t289 (ji5)) ++ (⟨#[32]⟩ : ByteArray)) ++ t302) ++ (⟨#[44, 32]⟩ : ByteArray)) ++ t303) ++ (⟨#[40]⟩ : ByteArray)) ++ t304) ++ (⟨#[41]⟩ : ByteArray))) else (none)) else (none))) else (none)) else (none))) else (none)) else (none))) else ((hibernacleref10_dec.f k a0_4).bind fun t305 => (if ((rdOf ByteArray.empty t289 (ji5)) ++ (⟨#[32]⟩ : ByteArray)).size + t305.size ≤ 9223372036854775807 then (some (((rdOf ByteArray.empty t289 (ji5)) ++ (⟨#[32]⟩ : ByteArray)) ++ t305)) else (none))))))) = some r := H
          have A9 := Aside0.mk A90
          clear A90
          by_cases c10 : t293 = 1
          · rw [if_pos c10] at H
            have c10b0 : (t293 == 1) = true := beq_iff_eq.mpr c10
            have c10b1 : (t293 != 1) = false := bne_eq_false_iff_eq.mpr c10
            clear c10
            replace H := Option.bind_eq_some_iff.mp H
            obtain ⟨t294, A110, H⟩ := H
            replace H : (if ((rdOf ByteArray.empty t289 (ji5)) ++ (⟨#[32]⟩ : ByteArray)).size + t294.size ≤ 9223372036854775807 then (if (((rdOf ByteArray.empty t289 (ji5)) ++ (⟨#[32]⟩ : ByteArray)) ++ t294).size + 2 ≤ 9223372036854775807 then ((hibernacleref10_reg.f k a0_2).bind fun t295 => (if ((((rdOf ByteArray.empty t289 (ji5)) ++ (⟨#[32]⟩ : ByteArray)) ++ t294) ++ (⟨#[44, 32]⟩ : ByteArray)).size + t295.size ≤ 9223372036854775807 then (if (((((rdOf ByteArray.empty t289 (ji5)) ++ (⟨#[32]⟩ : ByteArray)) ++ t294) ++ (⟨#[44, 32]⟩ : ByteArray)) ++ t295).size + 2 ≤ 9223372036854775807 then ((hibernacleref10_reg.f k a0_3).bind fun t296 => (if ((((((rdOf ByteArray.empty t289 (ji5)) ++ (⟨#[32]⟩ : ByteArray)) ++ t294) ++ (⟨#[44, 32]⟩ : ByteArray)) ++ t295) ++ (⟨#[44, 32]⟩ : ByteArray)).size + t296.size ≤ 9223372036854775807 then (some (((((((rdOf ByteArray.empty t289 (ji5)) ++ (⟨#[32]⟩ : ByteArray)) ++ t294) ++ (⟨#[44, 32]⟩ : ByteArray)) ++ t295) ++ (⟨#[44, 32]⟩ : ByteArray)) ++ t296)) else (none))) else (none)) else (none))) else (none)) else (none)) = some r := H
            have A11 := Aside0.mk A110
            clear A110
            by_cases c12 : ((rdOf ByteArray.empty t289 (ji5)) ++ (⟨#[32]⟩ : ByteArray)).size + t294.size ≤ 9223372036854775807
            · rw [if_pos c12] at H
              have c12b0 := eq_true c12
              have c12b1 : decide (((rdOf ByteArray.empty t289 (ji5)) ++ (⟨#[32]⟩ : ByteArray)).size + t294.size ≤ 9223372036854775807) = true := decide_eq_true c12
              try have c12b2 : (9223372036854775807 < ((rdOf ByteArray.empty t289 (ji5)) ++ (⟨#[32]⟩ : ByteArray)).size + t294.size) = False := eq_false (Nat.not_lt.2 c12)
              try (have c12b5 := c12b0; have c12b6 := c12b2; simp only [ByteArray.size_append, ByteArray.size_extract, Int.toNat_natCast, Nat.min_self, size_lit_, List.size_toArray, List.length_cons, List.length_nil, Nat.reduceAdd] at c12b5 c12b6)
              by_cases c13 : (((rdOf ByteArray.empty t289 (ji5)) ++ (⟨#[32]⟩ : ByteArray)) ++ t294).size + 2 ≤ 9223372036854775807
              · rw [if_pos c13] at H
                have c13b0 := eq_true c13
                have c13b1 : decide ((((rdOf ByteArray.empty t289 (ji5)) ++ (⟨#[32]⟩ : ByteArray)) ++ t294).size + 2 ≤ 9223372036854775807) = true := decide_eq_true c13
                try have c13b2 : (9223372036854775807 < (((rdOf ByteArray.empty t289 (ji5)) ++ (⟨#[32]⟩ : ByteArray)) ++ t294).size + 2) = False := eq_false (Nat.not_lt.2 c13)
                try (have c13b5 := c13b0; have c13b6 := c13b2; simp only [ByteArray.size_append, ByteArray.size_extract, Int.toNat_natCast, Nat.min_self, size_lit_, List.size_toArray, List.length_cons, List.length_nil, Nat.reduceAdd] at c13b5 c13b6)
                replace H := Option.bind_eq_some_iff.mp H
                obtain ⟨t295, A140, H⟩ := H
                replace H : (if ((((rdOf ByteArray.empty t289 (ji5)) ++ (⟨#[32]⟩ : ByteArray)) ++ t294) ++ (⟨#[44, 32]⟩ : ByteArray)).size + t295.size ≤ 9223372036854775807 then (if (((((rdOf ByteArray.empty t289 (ji5)) ++ (⟨#[32]⟩ : ByteArray)) ++ t294) ++ (⟨#[44, 32]⟩ : ByteArray)) ++ t295).size + 2 ≤ 9223372036854775807 then ((hibernacleref10_reg.f k a0_3).bind fun t296 => (if ((((((rdOf ByteArray.empty t289 (ji5)) ++ (⟨#[32]⟩ : ByteArray)) ++ t294) ++ (⟨#[44, 32]⟩ : ByteArray)) ++ t295) ++ (⟨#[44, 32]⟩ : ByteArray)).size + t296.size ≤ 9223372036854775807 then (some (((((((rdOf ByteArray.empty t289 (ji5)) ++ (⟨#[32]⟩ : ByteArray)) ++ t294) ++ (⟨#[44, 32]⟩ : ByteArray)) ++ t295) ++ (⟨#[44, 32]⟩ : ByteArray)) ++ t296)) else (none))) else (none)) else (none)) = some r := H
                have A14 := Aside0.mk A140
                clear A140
                by_cases c15 : ((((rdOf ByteArray.empty t289 (ji5)) ++ (⟨#[32]⟩ : ByteArray)) ++ t294) ++ (⟨#[44, 32]⟩ : ByteArray)).size + t295.size ≤ 9223372036854775807
                · rw [if_pos c15] at H
                  have c15b0 := eq_true c15
                  have c15b1 : decide (((((rdOf ByteArray.empty t289 (ji5)) ++ (⟨#[32]⟩ : ByteArray)) ++ t294) ++ (⟨#[44, 32]⟩ : ByteArray)).size + t295.size ≤ 9223372036854775807) = true := decide_eq_true c15
                  try have c15b2 : (9223372036854775807 < ((((rdOf ByteArray.empty t289 (ji5)) ++ (⟨#[32]⟩ : ByteArray)) ++ t294) ++ (⟨#[44, 32]⟩ : ByteArray)).size + t295.size) = False := eq_false (Nat.not_lt.2 c15)
                  try (have c15b5 := c15b0; have c15b6 := c15b2; simp only [ByteArray.size_append, ByteArray.size_extract, Int.toNat_natCast, Nat.min_self, size_lit_, List.size_toArray, List.length_cons, List.length_nil, Nat.reduceAdd] at c15b5 c15b6)
                  by_cases c16 : (((((rdOf ByteArray.empty t289 (ji5)) ++ (⟨#[32]⟩ : ByteArray)) ++ t294) ++ (⟨#[44, 32]⟩ : ByteArray)) ++ t295).size + 2 ≤ 9223372036854775807
                  · rw [if_pos c16] at H
                    have c16b0 := eq_true c16
                    have c16b1 : decide ((((((rdOf ByteArray.empty t289 (ji5)) ++ (⟨#[32]⟩ : ByteArray)) ++ t294) ++ (⟨#[44, 32]⟩ : ByteArray)) ++ t295).size + 2 ≤ 9223372036854775807) = true := decide_eq_true c16
                    try have c16b2 : (9223372036854775807 < (((((rdOf ByteArray.empty t289 (ji5)) ++ (⟨#[32]⟩ : ByteArray)) ++ t294) ++ (⟨#[44, 32]⟩ : ByteArray)) ++ t295).size + 2) = False := eq_false (Nat.not_lt.2 c16)
                    try (have c16b5 := c16b0; have c16b6 := c16b2; simp only [ByteArray.size_append, ByteArray.size_extract, Int.toNat_natCast, Nat.min_self, size_lit_, List.size_toArray, List.length_cons, List.length_nil, Nat.reduceAdd] at c16b5 c16b6)
                    replace H := Option.bind_eq_some_iff.mp H
                    obtain ⟨t296, A170, H⟩ := H
                    replace H : (if ((((((rdOf ByteArray.empty t289 (ji5)) ++ (⟨#[32]⟩ : ByteArray)) ++ t294) ++ (⟨#[44, 32]⟩ : ByteArray)) ++ t295) ++ (⟨#[44, 32]⟩ : ByteArray)).size + t296.size ≤ 9223372036854775807 then (some (((((((rdOf ByteArray.empty t289 (ji5)) ++ (⟨#[32]⟩ : ByteArray)) ++ t294) ++ (⟨#[44, 32]⟩ : ByteArray)) ++ t295) ++ (⟨#[44, 32]⟩ : ByteArray)) ++ t296)) else (none)) = some r := H
                    have A17 := Aside0.mk A170
                    clear A170
                    by_cases c18 : ((((((rdOf ByteArray.empty t289 (ji5)) ++ (⟨#[32]⟩ : ByteArray)) ++ t294) ++ (⟨#[44, 32]⟩ : ByteArray)) ++ t295) ++ (⟨#[44, 32]⟩ : ByteArray)).size + t296.size ≤ 9223372036854775807
                    · rw [if_pos c18] at H
                      have c18b0 := eq_true c18
                      have c18b1 : decide (((((((rdOf ByteArray.empty t289 (ji5)) ++ (⟨#[32]⟩ : ByteArray)) ++ t294) ++ (⟨#[44, 32]⟩ : ByteArray)) ++ t295) ++ (⟨#[44, 32]⟩ : ByteArray)).size + t296.size ≤ 9223372036854775807) = true := decide_eq_true c18
                      try have c18b2 : (9223372036854775807 < ((((((rdOf ByteArray.empty t289 (ji5)) ++ (⟨#[32]⟩ : ByteArray)) ++ t294) ++ (⟨#[44, 32]⟩ : ByteArray)) ++ t295) ++ (⟨#[44, 32]⟩ : ByteArray)).size + t296.size) = False := eq_false (Nat.not_lt.2 c18)
                      try (have c18b5 := c18b0; have c18b6 := c18b2; simp only [ByteArray.size_append, ByteArray.size_extract, Int.toNat_natCast, Nat.min_self, size_lit_, List.size_toArray, List.length_cons, List.length_nil, Nat.reduceAdd] at c18b5 c18b6)
                      obtain rfl := Option.some.inj H
                      go_enter Tryd.func16, Tryd.ntmps16
                      try go_wp2_with (first | ((with_reducible refine gate_dst (N := 1) rfl ?_); refine box_event ?hg (N := 1) ?hd (cs := #[.int .u8 a0_0, .int .u8 a0_1, .int .u8 a0_2, .int .u8 a0_3, .int .i32 a0_4]) (t := 23) ?hr ?_; (case hd => rfl); (case hg => rfl); (case hr => first | (go_simp; done) | (go_simp; rfl)); intro gb286 hg w19 hbox hb; have n0_ := Aside0.mk (below_step (by repeat (first | (with_reducible first | exact HB.out | apply below_alloc | apply pw_below_drewN | apply below_drew1) | exact HB.out)) hb); have n1_ := Aside0.mk (hbox); have n2_ := Aside0.mk ((by rw [hg]; exact (below_size (by repeat (first | (with_reducible first | exact HB.out | apply below_alloc | apply pw_below_drewN | apply below_drew1) | exact HB.out))) : w.heap.size ≤ gb286)); have n3_ := Aside0.mk ((by rw [hg]; exact (below_size (by repeat (first | (with_reducible first | exact HB.out | apply below_alloc | apply pw_below_drewN | apply below_drew1) | exact HB.out))) : w.heap.size ≤ gb286)); clear HB; have HB := n0_; have BK286 := n1_; have GW286 := n2_; have GE286 := n3_; clear n0_ n1_ n2_ n3_; clear hb hbox hg; have hcz20_0 : w19.cell? ⟨gb286, 0, none⟩ = some (.int .u8 a0_0) := (blk_cell BK286.out 0).trans rfl; have hcz20_1 : w19.cell? ⟨gb286, 1, none⟩ = some (.int .u8 a0_1) := (blk_cell BK286.out 1).trans rfl; have hcz20_2 : w19.cell? ⟨gb286, 2, none⟩ = some (.int .u8 a0_2) := (blk_cell BK286.out 2).trans rfl; have hcz20_3 : w19.cell? ⟨gb286, 3, none⟩ = some (.int .u8 a0_3) := (blk_cell BK286.out 3).trans rfl; have hcz20_4 : w19.cell? ⟨gb286, 4, none⟩ = some (.int .i32 a0_4) := (blk_cell BK286.out 4).trans rfl; have hfz20_0 := blk_frozen BK286.out 0; have hfz20_1 := blk_frozen BK286.out 1; have hfz20_2 := blk_frozen BK286.out 2; have hfz20_3 := blk_frozen BK286.out 3; have hfz20_4 := blk_frozen BK286.out 4) | ((with_reducible refine gate_callee (f := 12) rfl ?_); refine goesL_ (some 8) rfl rfl Tryd.func12 (by kernel_rfl) rfl #[.agg #[.int .u8 a0_0, .int .u8 a0_1, .int .u8 a0_2, .int .u8 a0_3, .int .i32 a0_4]] rfl (by (try simp only [List.map_toArray, List.map_cons, List.map_nil]); first | done | rfl | (simp only [List.length_drop, List.length_take]; rfl)) ?_; (with_reducible refine (hibernacleref10_Enc.calls k a0_0 a0_1 a0_2 a0_3 a0_4 t287 t288 _ A2.out).mono ?_); rintro e w21 ⟨rfl, hb⟩; refine ⟨_, rfl, ?_⟩; have n0_ := Aside0.mk (blk_below (g := gb286) (o := .cells #[.int .u8 a0_0, .int .u8 a0_1, .int .u8 a0_2, .int .u8 a0_3, .int .i32 a0_4] 23 (0, 0)) (by (with_reducible repeat (first | refine blk_drewN ?_ _ | refine blk_drew ?_ | refine blk_alloc ?_ _)); exact BK286.out) hb); have n1_ := Aside0.mk (below_step (by repeat (first | (with_reducible first | exact HB.out | apply below_alloc | apply pw_below_drewN | apply below_drew1 | refine below_set ?_ GE286.out) | exact HB.out)) hb); clear BK286; clear HB; have BK286 := n0_; have HB := n1_; clear n0_ n1_; (try clear hb); (try clear hb2); (try clear hk); (try clear hi)))
                      have n0_ := Aside0.mk (blk_drew BK286.out)
                      have n1_ := Aside0.mk (below_drew1 HB.out)
                      clear BK286
                      clear HB
                      have BK286 := n0_
                      have HB := n1_
                      clear n0_ n1_
                      refine start_ (n := 8) (S := fun w' => w'.cell? ⟨gb286, 0, none⟩ = some (.int .u8 a0_0) ∧ w'.cell? ⟨gb286, 1, none⟩ = some (.int .u8 a0_1) ∧ w'.cell? ⟨gb286, 2, none⟩ = some (.int .u8 a0_2) ∧ w'.cell? ⟨gb286, 3, none⟩ = some (.int .u8 a0_3) ∧ w'.cell? ⟨gb286, 4, none⟩ = some (.int .i32 a0_4)) (ds := []) #[false, false, false, false, false, false, false, false] (by kernel_rfl) rfl rfl ⟨(blk_cell BK286.out 0).trans rfl, (blk_cell BK286.out 1).trans rfl, (blk_cell BK286.out 2).trans rfl, (blk_cell BK286.out 3).trans rfl, (blk_cell BK286.out 4).trans rfl⟩ (fun hHeld => ?_); refine with_tabW hibernacleref10_Text.tab4 hibernacleref10_Text.bits4 (fun HT_ HW_ => ?_)
                      generalize w21.drew = w22 at BK286 HB hHeld ⊢
                      refine pure_ (i := 1) (N := some 14) (v := ?_) (a' := ?_) #[false, true, false, false, false, false, false, false] rfl rfl (any_of HT_.out (by kernel_rfl)) (fun _ _ _ h => h) (Or.inl ⟨by rfl, ?_⟩) ?_ ?_
                      rotate_left
                      · intro w'
                        go_simp
                        with_reducible rfl
                      rotate_left
                      · simp only [Act.put, List.setIfInBounds_toArray, List.set_cons_zero, List.set_cons_succ, i64_w, i32_w]
                        rfl
                      refine take_ (i := 2) (N := some 15) (v := ?_) (a' := ?_) #[false, true, true, false, false, false, false, false] rfl rfl (take_ofW HT_.out HW_.out (by kernel_rfl)) (fun _ _ _ h => h) (Or.inl ⟨by rfl, ?_⟩) hHeld ?_ ?_
                      rotate_left
                      · rintro w' ⟨s0, s1, s2, s3, s4⟩
                        go_simp
                        with_reducible rfl
                      rotate_left
                      · simp only [Act.put, List.setIfInBounds_toArray, List.set_cons_zero, List.set_cons_succ, i64_w, i32_w]
                        rfl
                      refine pure_ (i := 3) (N := some 16) (v := ?_) (a' := ?_) #[false, true, true, true, false, false, false, false] rfl rfl (any_of HT_.out (by kernel_rfl)) (fun _ _ _ h => h) (Or.inl ⟨by rfl, ?_⟩) ?_ ?_
                      rotate_left
                      · intro w'
                        go_simp
                        with_reducible rfl
                      rotate_left
                      · simp only [Act.put, List.setIfInBounds_toArray, List.set_cons_zero, List.set_cons_succ, i64_w, i32_w]
                        rfl
                      refine one_ (i := 0) (N := some 13) #[true, true, true, true, false, false, false, false] rfl rfl (one_of HT_.out (by kernel_rfl)) (by decide) (fun K hK => ?_)
                      refine goes_ Tryd.func29 (by kernel_rfl) rfl #[] (by rfl) rfl rfl (by (try simp only [List.map_toArray, List.map_cons, List.map_nil]); first | done | rfl | (simp only [List.length_drop, List.length_take]; rfl)) ?_
                      with_reducible refine (hibernacleref10_names.calls  t289 _ A4.out).mono ?_
                      rintro e w23 ⟨v290, rfl, ho0, hb⟩
                      refine ⟨_, rfl, ?_⟩
                      have n0_ := Aside0.mk (Kd.R_lower ho0 (below_size (by repeat (first | (with_reducible first | exact HB.out | apply below_alloc | apply pw_below_drewN | apply below_drew1 | refine below_set ?_ GE286.out) | exact HB.out))))
                      have n1_ := Aside0.mk (blk_below (g := gb286) (o := .cells #[.int .u8 a0_0, .int .u8 a0_1, .int .u8 a0_2, .int .u8 a0_3, .int .i32 a0_4] 23 (0, 0)) (by (with_reducible repeat (first | refine blk_drewN ?_ _ | refine blk_drew ?_ | refine blk_alloc ?_ _)); exact BK286.out) hb)
                      have n2_ := Aside0.mk (below_step (by repeat (first | (with_reducible first | exact HB.out | apply below_alloc | apply pw_below_drewN | apply below_drew1 | refine below_set ?_ GE286.out) | exact HB.out)) hb)
                      clear BK286
                      clear HB
                      have HO291 := n0_
                      have BK286 := n1_
                      have HB := n2_
                      clear n0_ n1_ n2_
                      (try clear hb)
                      (try clear hb2)
                      (try clear hk)
                      (try clear hi)
                      (try clear ho0)
                      obtain ⟨Ao24, co24, eo24⟩ := Kd.R_slice HO291.out
                      (first | subst eo24 | (injection eo24 with f1_ f2_ f3_; have f4_ := f1_.symm; have f5_ := f3_.symm; clear f1_ f2_ f3_; subst f4_; subst f5_))
                      have p292 : 0 ≤ ((ji5) : Int) := of_decide_eq_true (by first | (with_reducible assumption) | assumption)
                      have q292 : (ji5) < (t289.length : Int) := of_decide_eq_true (by first | (with_reducible assumption) | assumption)
                      obtain ⟨ad292, e292, hx292_0⟩ := Kd.at_string (Kd.R_reads' HO291.out).2.2 (ji5) p292 q292
                      cases e292
                      replace p292 := eq_true p292
                      replace q292 := eq_true q292
                      refine hK.out _ _ ⟨(blk_cell BK286.out 0).trans rfl, (blk_cell BK286.out 1).trans rfl, (blk_cell BK286.out 2).trans rfl, (blk_cell BK286.out 3).trans rfl, (blk_cell BK286.out 4).trans rfl⟩ (fun hHeld => ?_)
                      clear hK K
                      refine norm_ (a' := ?_) ?_ ?_
                      rotate_left
                      · show Act.put _ (some 13) _ = _
                        simp only [Act.put, List.setIfInBounds_toArray, List.set_cons_zero, List.set_cons_succ, i64_w, i32_w]
                        rfl
                      refine pure_ (i := 4) (N := some 17) (v := ?_) (a' := ?_) #[true, true, true, true, true, false, false, false] rfl rfl (any_of HT_.out (by kernel_rfl)) (fun _ _ _ h => h) (Or.inl ⟨by rfl, ?_⟩) ?_ ?_
                      rotate_left
                      · intro w'
                        go_simp
                        with_reducible rfl
                      rotate_left
                      · simp only [Act.put, List.setIfInBounds_toArray, List.set_cons_zero, List.set_cons_succ, i64_w, i32_w]
                        rfl
                      refine one_ (i := 5) (N := some 18) #[true, true, true, true, true, true, false, false] rfl rfl (one_of HT_.out (by kernel_rfl)) (by decide) (fun K hK => ?_)
                      go_wp2
                      refine hK.out _ _ ⟨(blk_cell BK286.out 0).trans rfl, (blk_cell BK286.out 1).trans rfl, (blk_cell BK286.out 2).trans rfl, (blk_cell BK286.out 3).trans rfl, (blk_cell BK286.out 4).trans rfl⟩ (fun hHeld => ?_)
                      clear hK K
                      refine pure_ (i := 6) (N := some 19) (v := ?_) (a' := ?_) #[true, true, true, true, true, true, true, false] rfl rfl (any_of HT_.out (by kernel_rfl)) (fun _ _ _ h => h) (Or.inl ⟨by rfl, ?_⟩) ?_ ?_
                      rotate_left
                      · intro w'
                        go_simp
                        with_reducible rfl
                      rotate_left
                      · simp only [Act.put, List.setIfInBounds_toArray, List.set_cons_zero, List.set_cons_succ, i64_w, i32_w]
                        rfl
                      refine pure_ (i := 7) (N := some 5) (v := ?_) (a' := ?_) #[true, true, true, true, true, true, true, true] rfl rfl (any_of HT_.out (by kernel_rfl)) (fun _ _ _ h => h) (Or.inl ⟨by rfl, ?_⟩) ?_ ?_
                      rotate_left
                      · intro w'
                        go_simp
                        with_reducible rfl
                      rotate_left
                      · simp only [Act.put, List.setIfInBounds_toArray, List.set_cons_zero, List.set_cons_succ, i64_w, i32_w]
                        rfl
                      refine done_ (done_of HT_.out (by kernel_rfl)) ?_
                      have hcz25_0 : w23.cell? ⟨gb286, 0, none⟩ = some (.int .u8 a0_0) := (blk_cell BK286.out 0).trans rfl
                      have hcz25_1 : w23.cell? ⟨gb286, 1, none⟩ = some (.int .u8 a0_1) := (blk_cell BK286.out 1).trans rfl
                      have hcz25_2 : w23.cell? ⟨gb286, 2, none⟩ = some (.int .u8 a0_2) := (blk_cell BK286.out 2).trans rfl
                      have hcz25_3 : w23.cell? ⟨gb286, 3, none⟩ = some (.int .u8 a0_3) := (blk_cell BK286.out 3).trans rfl
                      have hcz25_4 : w23.cell? ⟨gb286, 4, none⟩ = some (.int .i32 a0_4) := (blk_cell BK286.out 4).trans rfl
                      have hfz25_0 := blk_frozen BK286.out 0
                      have hfz25_1 := blk_frozen BK286.out 1
                      have hfz25_2 := blk_frozen BK286.out 2
                      have hfz25_3 := blk_frozen BK286.out 3
                      have hfz25_4 := blk_frozen BK286.out 4
                      try go_wp2_with (first | ((with_reducible refine gate_callee (f := 22) rfl ?_); refine goesL_ (some 22) rfl rfl Tryd.func22 (by kernel_rfl) rfl #[.int .u8 a0_0] rfl (by (try simp only [List.map_toArray, List.map_cons, List.map_nil]); first | done | rfl | (simp only [List.length_drop, List.length_take]; rfl)) ?_; (with_reducible refine (hibernacleref10_Form.calls k a0_0 t293 _ A9.out).mono ?_); rintro e w' ⟨rfl, ⟨nd, rfl⟩⟩; refine ⟨_, rfl, ?_⟩))
                      (try (rw [drewN_self w23]; generalize hq_ : World.drewN w23 _ = w23; have n0_ : Aside0 (Kd.R Kd.string 9 w23 w.heap.size (fun _ => True) (.slice (some ad292) t289.length co24) t289) := ⟨by rw [← hq_]; exact (by (with_reducible repeat (first | apply Kd.R_alloc | apply Kd.R_drewN | apply Kd.R_drew)); exact HO291.out)⟩; have n1_ : Aside0 (w23.heap[gb286]? = some (.cells #[.int .u8 a0_0, .int .u8 a0_1, .int .u8 a0_2, .int .u8 a0_3, .int .i32 a0_4] 23 (0, 0))) := ⟨by rw [← hq_]; exact (by (with_reducible repeat (first | refine blk_drewN ?_ _ | refine blk_drew ?_ | refine blk_alloc ?_ _)); exact BK286.out)⟩; have n2_ : Aside0 (Below w.heap.size w w23) := ⟨by rw [← hq_]; exact (by repeat (first | (with_reducible first | exact HB.out | apply below_alloc | apply pw_below_drewN | apply below_drew1 | refine below_set ?_ GE286.out) | exact HB.out))⟩; clear HO291 BK286 HB hq_; have HO291 := n0_; have BK286 := n1_; have HB := n2_; clear n0_ n1_ n2_))
                      have n0_ := Aside0.mk (Kd.R_drew HO291.out)
                      have n1_ := Aside0.mk (blk_drew BK286.out)
                      have n2_ := Aside0.mk (below_drew1 HB.out)
                      clear HO291
                      clear BK286
                      clear HB
                      have HO291 := n0_
                      have BK286 := n1_
                      have HB := n2_
                      clear n0_ n1_ n2_
                      refine start_ (n := 16) (S := fun w' => w'.cell? ⟨gb286, 0, none⟩ = some (.int .u8 a0_0) ∧ w'.cell? ⟨gb286, 1, none⟩ = some (.int .u8 a0_1) ∧ w'.cell? ⟨gb286, 2, none⟩ = some (.int .u8 a0_2) ∧ w'.cell? ⟨gb286, 3, none⟩ = some (.int .u8 a0_3) ∧ w'.cell? ⟨gb286, 4, none⟩ = some (.int .i32 a0_4)) (ds := []) zb1_Px10 (by kernel_rfl) rfl rfl ⟨(blk_cell BK286.out 0).trans rfl, (blk_cell BK286.out 1).trans rfl, (blk_cell BK286.out 2).trans rfl, (blk_cell BK286.out 3).trans rfl, (blk_cell BK286.out 4).trans rfl⟩ (fun hHeld => ?_); refine with_tabW hibernacleref10_Text.tab7 hibernacleref10_Text.bits7 (fun HT_ HW_ => ?_)
                      generalize w23.drew = w26 at HO291 BK286 HB hHeld ⊢
                      refine pure_ (i := 0) (N := some 25) (v := ?_) (a' := ?_) zb2_Px10 rfl rfl (any_of HT_.out (by kernel_rfl)) (fun _ _ _ h => h) (Or.inl ⟨by rfl, ?_⟩) ?_ ?_
                      rotate_left
                      · intro w'
                        go_simp
                        with_reducible rfl
                      rotate_left
                      · simp only [Act.put, List.setIfInBounds_toArray, List.set_cons_zero, List.set_cons_succ, i64_w, i32_w]
                        rfl
                      refine pure_ (i := 1) (N := some 26) (v := ?_) (a' := ?_) zb3_Px10 rfl rfl (any_of HT_.out (by kernel_rfl)) (fun _ _ _ h => h) (Or.inl ⟨by rfl, ?_⟩) ?_ ?_
                      rotate_left
                      · intro w'
                        go_simp
                        with_reducible rfl
                      rotate_left
                      · simp only [Act.put, List.setIfInBounds_toArray, List.set_cons_zero, List.set_cons_succ, i64_w, i32_w]
                        rfl
                      refine pure_ (i := 6) (N := some 31) (v := ?_) (a' := ?_) zb4_Px10 rfl rfl (any_of HT_.out (by kernel_rfl)) (fun _ _ _ h => h) (Or.inl ⟨by rfl, ?_⟩) ?_ ?_
                      rotate_left
                      · intro w'
                        go_simp
                        with_reducible rfl
                      rotate_left
                      · simp only [Act.put, List.setIfInBounds_toArray, List.set_cons_zero, List.set_cons_succ, i64_w, i32_w]
                        rfl
                      refine pure_ (i := 11) (N := some 36) (v := ?_) (a' := ?_) zb5_Px10 rfl rfl (any_of HT_.out (by kernel_rfl)) (fun _ _ _ h => h) (Or.inl ⟨by rfl, ?_⟩) ?_ ?_
                      rotate_left
                      · intro w'
                        go_simp
                        with_reducible rfl
                      rotate_left
                      · simp only [Act.put, List.setIfInBounds_toArray, List.set_cons_zero, List.set_cons_succ, i64_w, i32_w]
                        rfl
                      refine take_ (i := 2) (N := some 27) (v := ?_) (a' := ?_) zb6_Px10 rfl rfl (take_ofW HT_.out HW_.out (by kernel_rfl)) (fun _ _ _ h => h) (Or.inl ⟨by rfl, ?_⟩) hHeld ?_ ?_
                      rotate_left
                      · rintro w' ⟨s0, s1, s2, s3, s4⟩
                        go_simp
                        with_reducible rfl
                      rotate_left
                      · simp only [Act.put, List.setIfInBounds_toArray, List.set_cons_zero, List.set_cons_succ, i64_w, i32_w]
                        rfl
                      refine take_ (i := 7) (N := some 32) (v := ?_) (a' := ?_) zb7_Px10 rfl rfl (take_ofW HT_.out HW_.out (by kernel_rfl)) (fun _ _ _ h => h) (Or.inl ⟨by rfl, ?_⟩) hHeld ?_ ?_
                      rotate_left
                      · rintro w' ⟨s0, s1, s2, s3, s4⟩
                        go_simp
                        with_reducible rfl
                      rotate_left
                      · simp only [Act.put, List.setIfInBounds_toArray, List.set_cons_zero, List.set_cons_succ, i64_w, i32_w]
                        rfl
                      refine take_ (i := 12) (N := some 37) (v := ?_) (a' := ?_) zb8_Px10 rfl rfl (take_ofW HT_.out HW_.out (by kernel_rfl)) (fun _ _ _ h => h) (Or.inl ⟨by rfl, ?_⟩) hHeld ?_ ?_
                      rotate_left
                      · rintro w' ⟨s0, s1, s2, s3, s4⟩
                        go_simp
                        with_reducible rfl
                      rotate_left
                      · simp only [Act.put, List.setIfInBounds_toArray, List.set_cons_zero, List.set_cons_succ, i64_w, i32_w]
                        rfl
                      refine one_ (i := 3) (N := some 28) zb9_Px10 rfl rfl (one_of HT_.out (by kernel_rfl)) (by decide) (fun K hK => ?_)
                      refine goes_ Tryd.func30 (by kernel_rfl) rfl #[.int .u8 a0_1] (by rfl) rfl rfl (by (try simp only [List.map_toArray, List.map_cons, List.map_nil]); first | done | rfl | (simp only [List.length_drop, List.length_take]; rfl)) ?_
                      with_reducible refine (hibernacleref10_reg.calls k a0_1 t294 _ A11.out).mono ?_
                      rintro e w' ⟨rfl, ⟨nd, rfl⟩⟩
                      refine ⟨_, rfl, ?_⟩
                      refine hK.out _ _ ⟨(blk_cell BK286.out 0).trans rfl, (blk_cell BK286.out 1).trans rfl, (blk_cell BK286.out 2).trans rfl, (blk_cell BK286.out 3).trans rfl, (blk_cell BK286.out 4).trans rfl⟩ (fun hHeld => ?_)
                      clear hK K
                      refine norm_ (a' := ?_) ?_ ?_
                      rotate_left
                      · show Act.put _ (some 28) _ = _
                        simp only [Act.put, List.setIfInBounds_toArray, List.set_cons_zero, List.set_cons_succ, i64_w, i32_w]
                        rfl
                      refine pure_ (i := 4) (N := some 29) (v := ?_) (a' := ?_) zb10_Px10 rfl rfl (any_of HT_.out (by kernel_rfl)) (fun _ _ _ h => h) (Or.inl ⟨by rfl, ?_⟩) ?_ ?_
                      rotate_left
                      · intro w'
                        go_simp
                        with_reducible rfl
                      rotate_left
                      · simp only [Act.put, List.setIfInBounds_toArray, List.set_cons_zero, List.set_cons_succ, i64_w, i32_w]
                        rfl
                      refine pure_ (i := 5) (N := some 30) (v := ?_) (a' := ?_) zb11_Px10 rfl rfl (any_of HT_.out (by kernel_rfl)) (fun _ _ _ h => h) (Or.inl ⟨by rfl, ?_⟩) ?_ ?_
                      rotate_left
                      · intro w'
                        go_simp
                        with_reducible rfl
                      rotate_left
                      · simp only [Act.put, List.setIfInBounds_toArray, List.set_cons_zero, List.set_cons_succ, i64_w, i32_w]
                        rfl
                      refine one_ (i := 8) (N := some 33) zb12_Px10 rfl rfl (one_of HT_.out (by kernel_rfl)) (by decide) (fun K hK => ?_)
                      refine goes_ Tryd.func30 (by kernel_rfl) rfl #[.int .u8 a0_2] (by rfl) rfl rfl (by (try simp only [List.map_toArray, List.map_cons, List.map_nil]); first | done | rfl | (simp only [List.length_drop, List.length_take]; rfl)) ?_
                      with_reducible refine (hibernacleref10_reg.calls k a0_2 t295 _ A14.out).mono ?_
                      rintro e w' ⟨rfl, ⟨nd, rfl⟩⟩
                      refine ⟨_, rfl, ?_⟩
                      refine hK.out _ _ ⟨(blk_cell BK286.out 0).trans rfl, (blk_cell BK286.out 1).trans rfl, (blk_cell BK286.out 2).trans rfl, (blk_cell BK286.out 3).trans rfl, (blk_cell BK286.out 4).trans rfl⟩ (fun hHeld => ?_)
                      clear hK K
                      refine norm_ (a' := ?_) ?_ ?_
                      rotate_left
                      · show Act.put _ (some 33) _ = _
                        simp only [Act.put, List.setIfInBounds_toArray, List.set_cons_zero, List.set_cons_succ, i64_w, i32_w]
                        rfl
                      refine pure_ (i := 9) (N := some 34) (v := ?_) (a' := ?_) zb13_Px10 rfl rfl (any_of HT_.out (by kernel_rfl)) (fun _ _ _ h => h) (Or.inl ⟨by rfl, ?_⟩) ?_ ?_
                      rotate_left
                      · intro w'
                        go_simp
                        with_reducible rfl
                      rotate_left
                      · simp only [Act.put, List.setIfInBounds_toArray, List.set_cons_zero, List.set_cons_succ, i64_w, i32_w]
                        rfl
                      refine pure_ (i := 10) (N := some 35) (v := ?_) (a' := ?_) zb14_Px10 rfl rfl (any_of HT_.out (by kernel_rfl)) (fun _ _ _ h => h) (Or.inl ⟨by rfl, ?_⟩) ?_ ?_
                      rotate_left
                      · intro w'
                        go_simp
                        with_reducible rfl
                      rotate_left
                      · simp only [Act.put, List.setIfInBounds_toArray, List.set_cons_zero, List.set_cons_succ, i64_w, i32_w]
                        rfl
                      refine one_ (i := 13) (N := some 38) zb15_Px10 rfl rfl (one_of HT_.out (by kernel_rfl)) (by decide) (fun K hK => ?_)
                      refine goes_ Tryd.func30 (by kernel_rfl) rfl #[.int .u8 a0_3] (by rfl) rfl rfl (by (try simp only [List.map_toArray, List.map_cons, List.map_nil]); first | done | rfl | (simp only [List.length_drop, List.length_take]; rfl)) ?_
                      with_reducible refine (hibernacleref10_reg.calls k a0_3 t296 _ A17.out).mono ?_
                      rintro e w' ⟨rfl, ⟨nd, rfl⟩⟩
                      refine ⟨_, rfl, ?_⟩
                      refine hK.out _ _ ⟨(blk_cell BK286.out 0).trans rfl, (blk_cell BK286.out 1).trans rfl, (blk_cell BK286.out 2).trans rfl, (blk_cell BK286.out 3).trans rfl, (blk_cell BK286.out 4).trans rfl⟩ (fun hHeld => ?_)
                      clear hK K
                      refine norm_ (a' := ?_) ?_ ?_
                      rotate_left
                      · show Act.put _ (some 38) _ = _
                        simp only [Act.put, List.setIfInBounds_toArray, List.set_cons_zero, List.set_cons_succ, i64_w, i32_w]
                        rfl
                      refine pure_ (i := 14) (N := some 39) (v := ?_) (a' := ?_) zb16_Px10 rfl rfl (any_of HT_.out (by kernel_rfl)) (fun _ _ _ h => h) (Or.inl ⟨by rfl, ?_⟩) ?_ ?_
                      rotate_left
                      · intro w'
                        go_simp
                        with_reducible rfl
                      rotate_left
                      · simp only [Act.put, List.setIfInBounds_toArray, List.set_cons_zero, List.set_cons_succ, i64_w, i32_w]
                        rfl
                      refine pure_ (i := 15) (N := some 2) (v := ?_) (a' := ?_) zb17_Px10 rfl rfl (any_of HT_.out (by kernel_rfl)) (fun _ _ _ h => h) (Or.inl ⟨by rfl, ?_⟩) ?_ ?_
                      rotate_left
                      · intro w'
                        go_simp
                        with_reducible rfl
                      rotate_left
                      · simp only [Act.put, List.setIfInBounds_toArray, List.set_cons_zero, List.set_cons_succ, i64_w, i32_w]
                        rfl
                      refine done_ (done_of HT_.out (by kernel_rfl)) ?_
                      try go_wp2
                      go_ret
                      exact ⟨by first | rfl | (simp [errW_none, errW_some] <;> rfl) | (simp only [← hji5]; first | rfl | (simp [errW_none, errW_some] <;> rfl)) | (simp [*, errW_none, errW_some] <;> rfl), by repeat (first | (with_reducible first | exact HB.out | apply below_alloc | apply pw_below_drewN | apply below_drew1 | refine below_set ?_ GE286.out) | exact HB.out)⟩
                    · rw [if_neg c18] at H
                      exact absurd H (by simp)
                  · rw [if_neg c16] at H
                    exact absurd H (by simp)
                · rw [if_neg c15] at H
                  exact absurd H (by simp)
              · rw [if_neg c13] at H
                exact absurd H (by simp)
            · rw [if_neg c12] at H
              exact absurd H (by simp)
          · rw [if_neg c10] at H
            have c10b0 : (t293 == 1) = false := beq_eq_false_iff_ne.mpr c10
            have c10b1 : (t293 != 1) = true := bne_iff_ne.mpr c10
            by_cases c27 : t293 = 2
            · rw [if_pos c27] at H
              have c27b0 : (t293 == 2) = true := beq_iff_eq.mpr c27
              have c27b1 : (t293 != 2) = false := bne_eq_false_iff_eq.mpr c27
              clear c27
              replace H := Option.bind_eq_some_iff.mp H
              obtain ⟨t297, A280, H⟩ := H
              replace H : (if ((rdOf ByteArray.empty t289 (ji5)) ++ (⟨#[32]⟩ : ByteArray)).size + t297.size ≤ 9223372036854775807 then (if (((rdOf ByteArray.empty t289 (ji5)) ++ (⟨#[32]⟩ : ByteArray)) ++ t297).size + 2 ≤ 9223372036854775807 then ((hibernacleref10_reg.f k a0_2).bind fun t298 => (if ((((rdOf ByteArray.empty t289 (ji5)) ++ (⟨#[32]⟩ : ByteArray)) ++ t297) ++ (⟨#[44, 32]⟩ : ByteArray)).size + t298.size ≤ 9223372036854775807 then (if (((((rdOf ByteArray.empty t289 (ji5)) ++ (⟨#[32]⟩ : ByteArray)) ++ t297) ++ (⟨#[44, 32]⟩ : ByteArray)) ++ t298).size + 2 ≤ 9223372036854775807 then ((hibernacleref10_dec.f k a0_4).bind fun t299 => (if ((((((rdOf ByteArray.empty t289 (ji5)) ++ (⟨#[32]⟩ : ByteArray)) ++ t297) ++ (⟨#[44, 32]⟩ : ByteArray)) ++ t298) ++ (⟨#[44, 32]⟩ : ByteArray)).size + t299.size ≤ 9223372036854775807 then (some (((((((rdOf ByteArray.empty t289 (ji5)) ++ (⟨#[32]⟩ : ByteArray)) ++ t297) ++ (⟨#[44, 32]⟩ : ByteArray)) ++ t298) ++ (⟨#[44, 32]⟩ : ByteArray)) ++ t299)) else (none))) else (none)) else (none))) else (none)) else (none)) = some r := H
              have A28 := Aside0.mk A280
              clear A280
              by_cases c29 : ((rdOf ByteArray.empty t289 (ji5)) ++ (⟨#[32]⟩ : ByteArray)).size + t297.size ≤ 9223372036854775807
              · rw [if_pos c29] at H
                have c29b0 := eq_true c29
                have c29b1 : decide (((rdOf ByteArray.empty t289 (ji5)) ++ (⟨#[32]⟩ : ByteArray)).size + t297.size ≤ 9223372036854775807) = true := decide_eq_true c29
                try have c29b2 : (9223372036854775807 < ((rdOf ByteArray.empty t289 (ji5)) ++ (⟨#[32]⟩ : ByteArray)).size + t297.size) = False := eq_false (Nat.not_lt.2 c29)
                try (have c29b5 := c29b0; have c29b6 := c29b2; simp only [ByteArray.size_append, ByteArray.size_extract, Int.toNat_natCast, Nat.min_self, size_lit_, List.size_toArray, List.length_cons, List.length_nil, Nat.reduceAdd] at c29b5 c29b6)
                by_cases c30 : (((rdOf ByteArray.empty t289 (ji5)) ++ (⟨#[32]⟩ : ByteArray)) ++ t297).size + 2 ≤ 9223372036854775807
                · rw [if_pos c30] at H
                  have c30b0 := eq_true c30
                  have c30b1 : decide ((((rdOf ByteArray.empty t289 (ji5)) ++ (⟨#[32]⟩ : ByteArray)) ++ t297).size + 2 ≤ 9223372036854775807) = true := decide_eq_true c30
                  try have c30b2 : (9223372036854775807 < (((rdOf ByteArray.empty t289 (ji5)) ++ (⟨#[32]⟩ : ByteArray)) ++ t297).size + 2) = False := eq_false (Nat.not_lt.2 c30)
                  try (have c30b5 := c30b0; have c30b6 := c30b2; simp only [ByteArray.size_append, ByteArray.size_extract, Int.toNat_natCast, Nat.min_self, size_lit_, List.size_toArray, List.length_cons, List.length_nil, Nat.reduceAdd] at c30b5 c30b6)
                  replace H := Option.bind_eq_some_iff.mp H
                  obtain ⟨t298, A310, H⟩ := H
                  replace H : (if ((((rdOf ByteArray.empty t289 (ji5)) ++ (⟨#[32]⟩ : ByteArray)) ++ t297) ++ (⟨#[44, 32]⟩ : ByteArray)).size + t298.size ≤ 9223372036854775807 then (if (((((rdOf ByteArray.empty t289 (ji5)) ++ (⟨#[32]⟩ : ByteArray)) ++ t297) ++ (⟨#[44, 32]⟩ : ByteArray)) ++ t298).size + 2 ≤ 9223372036854775807 then ((hibernacleref10_dec.f k a0_4).bind fun t299 => (if ((((((rdOf ByteArray.empty t289 (ji5)) ++ (⟨#[32]⟩ : ByteArray)) ++ t297) ++ (⟨#[44, 32]⟩ : ByteArray)) ++ t298) ++ (⟨#[44, 32]⟩ : ByteArray)).size + t299.size ≤ 9223372036854775807 then (some (((((((rdOf ByteArray.empty t289 (ji5)) ++ (⟨#[32]⟩ : ByteArray)) ++ t297) ++ (⟨#[44, 32]⟩ : ByteArray)) ++ t298) ++ (⟨#[44, 32]⟩ : ByteArray)) ++ t299)) else (none))) else (none)) else (none)) = some r := H
                  have A31 := Aside0.mk A310
                  clear A310
                  by_cases c32 : ((((rdOf ByteArray.empty t289 (ji5)) ++ (⟨#[32]⟩ : ByteArray)) ++ t297) ++ (⟨#[44, 32]⟩ : ByteArray)).size + t298.size ≤ 9223372036854775807
                  · rw [if_pos c32] at H
                    have c32b0 := eq_true c32
                    have c32b1 : decide (((((rdOf ByteArray.empty t289 (ji5)) ++ (⟨#[32]⟩ : ByteArray)) ++ t297) ++ (⟨#[44, 32]⟩ : ByteArray)).size + t298.size ≤ 9223372036854775807) = true := decide_eq_true c32
                    try have c32b2 : (9223372036854775807 < ((((rdOf ByteArray.empty t289 (ji5)) ++ (⟨#[32]⟩ : ByteArray)) ++ t297) ++ (⟨#[44, 32]⟩ : ByteArray)).size + t298.size) = False := eq_false (Nat.not_lt.2 c32)
                    try (have c32b5 := c32b0; have c32b6 := c32b2; simp only [ByteArray.size_append, ByteArray.size_extract, Int.toNat_natCast, Nat.min_self, size_lit_, List.size_toArray, List.length_cons, List.length_nil, Nat.reduceAdd] at c32b5 c32b6)
                    by_cases c33 : (((((rdOf ByteArray.empty t289 (ji5)) ++ (⟨#[32]⟩ : ByteArray)) ++ t297) ++ (⟨#[44, 32]⟩ : ByteArray)) ++ t298).size + 2 ≤ 9223372036854775807
                    · rw [if_pos c33] at H
                      have c33b0 := eq_true c33
                      have c33b1 : decide ((((((rdOf ByteArray.empty t289 (ji5)) ++ (⟨#[32]⟩ : ByteArray)) ++ t297) ++ (⟨#[44, 32]⟩ : ByteArray)) ++ t298).size + 2 ≤ 9223372036854775807) = true := decide_eq_true c33
                      try have c33b2 : (9223372036854775807 < (((((rdOf ByteArray.empty t289 (ji5)) ++ (⟨#[32]⟩ : ByteArray)) ++ t297) ++ (⟨#[44, 32]⟩ : ByteArray)) ++ t298).size + 2) = False := eq_false (Nat.not_lt.2 c33)
                      try (have c33b5 := c33b0; have c33b6 := c33b2; simp only [ByteArray.size_append, ByteArray.size_extract, Int.toNat_natCast, Nat.min_self, size_lit_, List.size_toArray, List.length_cons, List.length_nil, Nat.reduceAdd] at c33b5 c33b6)
                      replace H := Option.bind_eq_some_iff.mp H
                      obtain ⟨t299, A340, H⟩ := H
                      replace H : (if ((((((rdOf ByteArray.empty t289 (ji5)) ++ (⟨#[32]⟩ : ByteArray)) ++ t297) ++ (⟨#[44, 32]⟩ : ByteArray)) ++ t298) ++ (⟨#[44, 32]⟩ : ByteArray)).size + t299.size ≤ 9223372036854775807 then (some (((((((rdOf ByteArray.empty t289 (ji5)) ++ (⟨#[32]⟩ : ByteArray)) ++ t297) ++ (⟨#[44, 32]⟩ : ByteArray)) ++ t298) ++ (⟨#[44, 32]⟩ : ByteArray)) ++ t299)) else (none)) = some r := H
                      have A34 := Aside0.mk A340
                      clear A340
                      by_cases c35 : ((((((rdOf ByteArray.empty t289 (ji5)) ++ (⟨#[32]⟩ : ByteArray)) ++ t297) ++ (⟨#[44, 32]⟩ : ByteArray)) ++ t298) ++ (⟨#[44, 32]⟩ : ByteArray)).size + t299.size ≤ 9223372036854775807
                      · rw [if_pos c35] at H
                        have c35b0 := eq_true c35
                        have c35b1 : decide (((((((rdOf ByteArray.empty t289 (ji5)) ++ (⟨#[32]⟩ : ByteArray)) ++ t297) ++ (⟨#[44, 32]⟩ : ByteArray)) ++ t298) ++ (⟨#[44, 32]⟩ : ByteArray)).size + t299.size ≤ 9223372036854775807) = true := decide_eq_true c35
                        try have c35b2 : (9223372036854775807 < ((((((rdOf ByteArray.empty t289 (ji5)) ++ (⟨#[32]⟩ : ByteArray)) ++ t297) ++ (⟨#[44, 32]⟩ : ByteArray)) ++ t298) ++ (⟨#[44, 32]⟩ : ByteArray)).size + t299.size) = False := eq_false (Nat.not_lt.2 c35)
                        try (have c35b5 := c35b0; have c35b6 := c35b2; simp only [ByteArray.size_append, ByteArray.size_extract, Int.toNat_natCast, Nat.min_self, size_lit_, List.size_toArray, List.length_cons, List.length_nil, Nat.reduceAdd] at c35b5 c35b6)
                        obtain rfl := Option.some.inj H
                        go_enter Tryd.func16, Tryd.ntmps16
                        try go_wp2_with (first | ((with_reducible refine gate_dst (N := 1) rfl ?_); refine box_event ?hg (N := 1) ?hd (cs := #[.int .u8 a0_0, .int .u8 a0_1, .int .u8 a0_2, .int .u8 a0_3, .int .i32 a0_4]) (t := 23) ?hr ?_; (case hd => rfl); (case hg => rfl); (case hr => first | (go_simp; done) | (go_simp; rfl)); intro gb286 hg w36 hbox hb; have n0_ := Aside0.mk (below_step (by repeat (first | (with_reducible first | exact HB.out | apply below_alloc | apply pw_below_drewN | apply below_drew1) | exact HB.out)) hb); have n1_ := Aside0.mk (hbox); have n2_ := Aside0.mk ((by rw [hg]; exact (below_size (by repeat (first | (with_reducible first | exact HB.out | apply below_alloc | apply pw_below_drewN | apply below_drew1) | exact HB.out))) : w.heap.size ≤ gb286)); have n3_ := Aside0.mk ((by rw [hg]; exact (below_size (by repeat (first | (with_reducible first | exact HB.out | apply below_alloc | apply pw_below_drewN | apply below_drew1) | exact HB.out))) : w.heap.size ≤ gb286)); clear HB; have HB := n0_; have BK286 := n1_; have GW286 := n2_; have GE286 := n3_; clear n0_ n1_ n2_ n3_; clear hb hbox hg; have hcz37_0 : w36.cell? ⟨gb286, 0, none⟩ = some (.int .u8 a0_0) := (blk_cell BK286.out 0).trans rfl; have hcz37_1 : w36.cell? ⟨gb286, 1, none⟩ = some (.int .u8 a0_1) := (blk_cell BK286.out 1).trans rfl; have hcz37_2 : w36.cell? ⟨gb286, 2, none⟩ = some (.int .u8 a0_2) := (blk_cell BK286.out 2).trans rfl; have hcz37_3 : w36.cell? ⟨gb286, 3, none⟩ = some (.int .u8 a0_3) := (blk_cell BK286.out 3).trans rfl; have hcz37_4 : w36.cell? ⟨gb286, 4, none⟩ = some (.int .i32 a0_4) := (blk_cell BK286.out 4).trans rfl; have hfz37_0 := blk_frozen BK286.out 0; have hfz37_1 := blk_frozen BK286.out 1; have hfz37_2 := blk_frozen BK286.out 2; have hfz37_3 := blk_frozen BK286.out 3; have hfz37_4 := blk_frozen BK286.out 4) | ((with_reducible refine gate_callee (f := 12) rfl ?_); refine goesL_ (some 8) rfl rfl Tryd.func12 (by kernel_rfl) rfl #[.agg #[.int .u8 a0_0, .int .u8 a0_1, .int .u8 a0_2, .int .u8 a0_3, .int .i32 a0_4]] rfl (by (try simp only [List.map_toArray, List.map_cons, List.map_nil]); first | done | rfl | (simp only [List.length_drop, List.length_take]; rfl)) ?_; (with_reducible refine (hibernacleref10_Enc.calls k a0_0 a0_1 a0_2 a0_3 a0_4 t287 t288 _ A2.out).mono ?_); rintro e w38 ⟨rfl, hb⟩; refine ⟨_, rfl, ?_⟩; have n0_ := Aside0.mk (blk_below (g := gb286) (o := .cells #[.int .u8 a0_0, .int .u8 a0_1, .int .u8 a0_2, .int .u8 a0_3, .int .i32 a0_4] 23 (0, 0)) (by (with_reducible repeat (first | refine blk_drewN ?_ _ | refine blk_drew ?_ | refine blk_alloc ?_ _)); exact BK286.out) hb); have n1_ := Aside0.mk (below_step (by repeat (first | (with_reducible first | exact HB.out | apply below_alloc | apply pw_below_drewN | apply below_drew1 | refine below_set ?_ GE286.out) | exact HB.out)) hb); clear BK286; clear HB; have BK286 := n0_; have HB := n1_; clear n0_ n1_; (try clear hb); (try clear hb2); (try clear hk); (try clear hi)))
                        have n0_ := Aside0.mk (blk_drew BK286.out)
                        have n1_ := Aside0.mk (below_drew1 HB.out)
                        clear BK286
                        clear HB
                        have BK286 := n0_
                        have HB := n1_
                        clear n0_ n1_
                        refine start_ (n := 8) (S := fun w' => w'.cell? ⟨gb286, 0, none⟩ = some (.int .u8 a0_0) ∧ w'.cell? ⟨gb286, 1, none⟩ = some (.int .u8 a0_1) ∧ w'.cell? ⟨gb286, 2, none⟩ = some (.int .u8 a0_2) ∧ w'.cell? ⟨gb286, 3, none⟩ = some (.int .u8 a0_3) ∧ w'.cell? ⟨gb286, 4, none⟩ = some (.int .i32 a0_4)) (ds := []) #[false, false, false, false, false, false, false, false] (by kernel_rfl) rfl rfl ⟨(blk_cell BK286.out 0).trans rfl, (blk_cell BK286.out 1).trans rfl, (blk_cell BK286.out 2).trans rfl, (blk_cell BK286.out 3).trans rfl, (blk_cell BK286.out 4).trans rfl⟩ (fun hHeld => ?_); refine with_tabW hibernacleref10_Text.tab4 hibernacleref10_Text.bits4 (fun HT_ HW_ => ?_)
                        generalize w38.drew = w39 at BK286 HB hHeld ⊢
                        refine pure_ (i := 1) (N := some 14) (v := ?_) (a' := ?_) #[false, true, false, false, false, false, false, false] rfl rfl (any_of HT_.out (by kernel_rfl)) (fun _ _ _ h => h) (Or.inl ⟨by rfl, ?_⟩) ?_ ?_
                        rotate_left
                        · intro w'
                          go_simp
                          with_reducible rfl
                        rotate_left
                        · simp only [Act.put, List.setIfInBounds_toArray, List.set_cons_zero, List.set_cons_succ, i64_w, i32_w]
                          rfl
                        refine take_ (i := 2) (N := some 15) (v := ?_) (a' := ?_) #[false, true, true, false, false, false, false, false] rfl rfl (take_ofW HT_.out HW_.out (by kernel_rfl)) (fun _ _ _ h => h) (Or.inl ⟨by rfl, ?_⟩) hHeld ?_ ?_
                        rotate_left
                        · rintro w' ⟨s0, s1, s2, s3, s4⟩
                          go_simp
                          with_reducible rfl
                        rotate_left
                        · simp only [Act.put, List.setIfInBounds_toArray, List.set_cons_zero, List.set_cons_succ, i64_w, i32_w]
                          rfl
                        refine pure_ (i := 3) (N := some 16) (v := ?_) (a' := ?_) #[false, true, true, true, false, false, false, false] rfl rfl (any_of HT_.out (by kernel_rfl)) (fun _ _ _ h => h) (Or.inl ⟨by rfl, ?_⟩) ?_ ?_
                        rotate_left
                        · intro w'
                          go_simp
                          with_reducible rfl
                        rotate_left
                        · simp only [Act.put, List.setIfInBounds_toArray, List.set_cons_zero, List.set_cons_succ, i64_w, i32_w]
                          rfl
                        refine one_ (i := 0) (N := some 13) #[true, true, true, true, false, false, false, false] rfl rfl (one_of HT_.out (by kernel_rfl)) (by decide) (fun K hK => ?_)
                        refine goes_ Tryd.func29 (by kernel_rfl) rfl #[] (by rfl) rfl rfl (by (try simp only [List.map_toArray, List.map_cons, List.map_nil]); first | done | rfl | (simp only [List.length_drop, List.length_take]; rfl)) ?_
                        with_reducible refine (hibernacleref10_names.calls  t289 _ A4.out).mono ?_
                        rintro e w40 ⟨v290, rfl, ho0, hb⟩
                        refine ⟨_, rfl, ?_⟩
                        have n0_ := Aside0.mk (Kd.R_lower ho0 (below_size (by repeat (first | (with_reducible first | exact HB.out | apply below_alloc | apply pw_below_drewN | apply below_drew1 | refine below_set ?_ GE286.out) | exact HB.out))))
                        have n1_ := Aside0.mk (blk_below (g := gb286) (o := .cells #[.int .u8 a0_0, .int .u8 a0_1, .int .u8 a0_2, .int .u8 a0_3, .int .i32 a0_4] 23 (0, 0)) (by (with_reducible repeat (first | refine blk_drewN ?_ _ | refine blk_drew ?_ | refine blk_alloc ?_ _)); exact BK286.out) hb)
                        have n2_ := Aside0.mk (below_step (by repeat (first | (with_reducible first | exact HB.out | apply below_alloc | apply pw_below_drewN | apply below_drew1 | refine below_set ?_ GE286.out) | exact HB.out)) hb)
                        clear BK286
                        clear HB
                        have HO291 := n0_
                        have BK286 := n1_
                        have HB := n2_
                        clear n0_ n1_ n2_
                        (try clear hb)
                        (try clear hb2)
                        (try clear hk)
                        (try clear hi)
                        (try clear ho0)
                        obtain ⟨Ao41, co41, eo41⟩ := Kd.R_slice HO291.out
                        (first | subst eo41 | (injection eo41 with f1_ f2_ f3_; have f4_ := f1_.symm; have f5_ := f3_.symm; clear f1_ f2_ f3_; subst f4_; subst f5_))
                        have p292 : 0 ≤ ((ji5) : Int) := of_decide_eq_true (by first | (with_reducible assumption) | assumption)
                        have q292 : (ji5) < (t289.length : Int) := of_decide_eq_true (by first | (with_reducible assumption) | assumption)
                        obtain ⟨ad292, e292, hx292_0⟩ := Kd.at_string (Kd.R_reads' HO291.out).2.2 (ji5) p292 q292
                        cases e292
                        replace p292 := eq_true p292
                        replace q292 := eq_true q292
                        refine hK.out _ _ ⟨(blk_cell BK286.out 0).trans rfl, (blk_cell BK286.out 1).trans rfl, (blk_cell BK286.out 2).trans rfl, (blk_cell BK286.out 3).trans rfl, (blk_cell BK286.out 4).trans rfl⟩ (fun hHeld => ?_)
                        clear hK K
                        refine norm_ (a' := ?_) ?_ ?_
                        rotate_left
                        · show Act.put _ (some 13) _ = _
                          simp only [Act.put, List.setIfInBounds_toArray, List.set_cons_zero, List.set_cons_succ, i64_w, i32_w]
                          rfl
                        refine pure_ (i := 4) (N := some 17) (v := ?_) (a' := ?_) #[true, true, true, true, true, false, false, false] rfl rfl (any_of HT_.out (by kernel_rfl)) (fun _ _ _ h => h) (Or.inl ⟨by rfl, ?_⟩) ?_ ?_
                        rotate_left
                        · intro w'
                          go_simp
                          with_reducible rfl
                        rotate_left
                        · simp only [Act.put, List.setIfInBounds_toArray, List.set_cons_zero, List.set_cons_succ, i64_w, i32_w]
                          rfl
                        refine one_ (i := 5) (N := some 18) #[true, true, true, true, true, true, false, false] rfl rfl (one_of HT_.out (by kernel_rfl)) (by decide) (fun K hK => ?_)
                        go_wp2
                        refine hK.out _ _ ⟨(blk_cell BK286.out 0).trans rfl, (blk_cell BK286.out 1).trans rfl, (blk_cell BK286.out 2).trans rfl, (blk_cell BK286.out 3).trans rfl, (blk_cell BK286.out 4).trans rfl⟩ (fun hHeld => ?_)
                        clear hK K
                        refine pure_ (i := 6) (N := some 19) (v := ?_) (a' := ?_) #[true, true, true, true, true, true, true, false] rfl rfl (any_of HT_.out (by kernel_rfl)) (fun _ _ _ h => h) (Or.inl ⟨by rfl, ?_⟩) ?_ ?_
                        rotate_left
                        · intro w'
                          go_simp
                          with_reducible rfl
                        rotate_left
                        · simp only [Act.put, List.setIfInBounds_toArray, List.set_cons_zero, List.set_cons_succ, i64_w, i32_w]
                          rfl
                        refine pure_ (i := 7) (N := some 5) (v := ?_) (a' := ?_) #[true, true, true, true, true, true, true, true] rfl rfl (any_of HT_.out (by kernel_rfl)) (fun _ _ _ h => h) (Or.inl ⟨by rfl, ?_⟩) ?_ ?_
                        rotate_left
                        · intro w'
                          go_simp
                          with_reducible rfl
                        rotate_left
                        · simp only [Act.put, List.setIfInBounds_toArray, List.set_cons_zero, List.set_cons_succ, i64_w, i32_w]
                          rfl
                        refine done_ (done_of HT_.out (by kernel_rfl)) ?_
                        have hcz42_0 : w40.cell? ⟨gb286, 0, none⟩ = some (.int .u8 a0_0) := (blk_cell BK286.out 0).trans rfl
                        have hcz42_1 : w40.cell? ⟨gb286, 1, none⟩ = some (.int .u8 a0_1) := (blk_cell BK286.out 1).trans rfl
                        have hcz42_2 : w40.cell? ⟨gb286, 2, none⟩ = some (.int .u8 a0_2) := (blk_cell BK286.out 2).trans rfl
                        have hcz42_3 : w40.cell? ⟨gb286, 3, none⟩ = some (.int .u8 a0_3) := (blk_cell BK286.out 3).trans rfl
                        have hcz42_4 : w40.cell? ⟨gb286, 4, none⟩ = some (.int .i32 a0_4) := (blk_cell BK286.out 4).trans rfl
                        have hfz42_0 := blk_frozen BK286.out 0
                        have hfz42_1 := blk_frozen BK286.out 1
                        have hfz42_2 := blk_frozen BK286.out 2
                        have hfz42_3 := blk_frozen BK286.out 3
                        have hfz42_4 := blk_frozen BK286.out 4
                        try go_wp2_with (first | ((with_reducible refine gate_callee (f := 22) rfl ?_); refine goesL_ (some 22) rfl rfl Tryd.func22 (by kernel_rfl) rfl #[.int .u8 a0_0] rfl (by (try simp only [List.map_toArray, List.map_cons, List.map_nil]); first | done | rfl | (simp only [List.length_drop, List.length_take]; rfl)) ?_; (with_reducible refine (hibernacleref10_Form.calls k a0_0 t293 _ A9.out).mono ?_); rintro e w' ⟨rfl, ⟨nd, rfl⟩⟩; refine ⟨_, rfl, ?_⟩))
                        (try (rw [drewN_self w40]; generalize hq_ : World.drewN w40 _ = w40; have n0_ : Aside0 (Kd.R Kd.string 9 w40 w.heap.size (fun _ => True) (.slice (some ad292) t289.length co41) t289) := ⟨by rw [← hq_]; exact (by (with_reducible repeat (first | apply Kd.R_alloc | apply Kd.R_drewN | apply Kd.R_drew)); exact HO291.out)⟩; have n1_ : Aside0 (w40.heap[gb286]? = some (.cells #[.int .u8 a0_0, .int .u8 a0_1, .int .u8 a0_2, .int .u8 a0_3, .int .i32 a0_4] 23 (0, 0))) := ⟨by rw [← hq_]; exact (by (with_reducible repeat (first | refine blk_drewN ?_ _ | refine blk_drew ?_ | refine blk_alloc ?_ _)); exact BK286.out)⟩; have n2_ : Aside0 (Below w.heap.size w w40) := ⟨by rw [← hq_]; exact (by repeat (first | (with_reducible first | exact HB.out | apply below_alloc | apply pw_below_drewN | apply below_drew1 | refine below_set ?_ GE286.out) | exact HB.out))⟩; clear HO291 BK286 HB hq_; have HO291 := n0_; have BK286 := n1_; have HB := n2_; clear n0_ n1_ n2_))
                        have n0_ := Aside0.mk (Kd.R_drew HO291.out)
                        have n1_ := Aside0.mk (blk_drew BK286.out)
                        have n2_ := Aside0.mk (below_drew1 HB.out)
                        clear HO291
                        clear BK286
                        clear HB
                        have HO291 := n0_
                        have BK286 := n1_
                        have HB := n2_
                        clear n0_ n1_ n2_
                        refine start_ (n := 16) (S := fun w' => w'.cell? ⟨gb286, 0, none⟩ = some (.int .u8 a0_0) ∧ w'.cell? ⟨gb286, 1, none⟩ = some (.int .u8 a0_1) ∧ w'.cell? ⟨gb286, 2, none⟩ = some (.int .u8 a0_2) ∧ w'.cell? ⟨gb286, 3, none⟩ = some (.int .u8 a0_3) ∧ w'.cell? ⟨gb286, 4, none⟩ = some (.int .i32 a0_4)) (ds := []) zb1_Px10 (by kernel_rfl) rfl rfl ⟨(blk_cell BK286.out 0).trans rfl, (blk_cell BK286.out 1).trans rfl, (blk_cell BK286.out 2).trans rfl, (blk_cell BK286.out 3).trans rfl, (blk_cell BK286.out 4).trans rfl⟩ (fun hHeld => ?_); refine with_tabW hibernacleref10_Text.tab9 hibernacleref10_Text.bits9 (fun HT_ HW_ => ?_)
                        generalize w40.drew = w43 at HO291 BK286 HB hHeld ⊢
                        refine pure_ (i := 0) (N := some 42) (v := ?_) (a' := ?_) zb2_Px10 rfl rfl (any_of HT_.out (by kernel_rfl)) (fun _ _ _ h => h) (Or.inl ⟨by rfl, ?_⟩) ?_ ?_
                        rotate_left
                        · intro w'
                          go_simp
                          with_reducible rfl
                        rotate_left
                        · simp only [Act.put, List.setIfInBounds_toArray, List.set_cons_zero, List.set_cons_succ, i64_w, i32_w]
                          rfl
                        refine pure_ (i := 1) (N := some 43) (v := ?_) (a' := ?_) zb3_Px10 rfl rfl (any_of HT_.out (by kernel_rfl)) (fun _ _ _ h => h) (Or.inl ⟨by rfl, ?_⟩) ?_ ?_
                        rotate_left
                        · intro w'
                          go_simp
                          with_reducible rfl
                        rotate_left
                        · simp only [Act.put, List.setIfInBounds_toArray, List.set_cons_zero, List.set_cons_succ, i64_w, i32_w]
                          rfl
                        refine pure_ (i := 6) (N := some 48) (v := ?_) (a' := ?_) zb4_Px10 rfl rfl (any_of HT_.out (by kernel_rfl)) (fun _ _ _ h => h) (Or.inl ⟨by rfl, ?_⟩) ?_ ?_
                        rotate_left
                        · intro w'
                          go_simp
                          with_reducible rfl
                        rotate_left
                        · simp only [Act.put, List.setIfInBounds_toArray, List.set_cons_zero, List.set_cons_succ, i64_w, i32_w]
                          rfl
                        refine pure_ (i := 11) (N := some 53) (v := ?_) (a' := ?_) zb5_Px10 rfl rfl (any_of HT_.out (by kernel_rfl)) (fun _ _ _ h => h) (Or.inl ⟨by rfl, ?_⟩) ?_ ?_
                        rotate_left
                        · intro w'
                          go_simp
                          with_reducible rfl
                        rotate_left
                        · simp only [Act.put, List.setIfInBounds_toArray, List.set_cons_zero, List.set_cons_succ, i64_w, i32_w]
                          rfl
                        refine take_ (i := 2) (N := some 44) (v := ?_) (a' := ?_) zb6_Px10 rfl rfl (take_ofW HT_.out HW_.out (by kernel_rfl)) (fun _ _ _ h => h) (Or.inl ⟨by rfl, ?_⟩) hHeld ?_ ?_
                        rotate_left
                        · rintro w' ⟨s0, s1, s2, s3, s4⟩
                          go_simp
                          with_reducible rfl
                        rotate_left
                        · simp only [Act.put, List.setIfInBounds_toArray, List.set_cons_zero, List.set_cons_succ, i64_w, i32_w]
                          rfl
                        refine take_ (i := 7) (N := some 49) (v := ?_) (a' := ?_) zb7_Px10 rfl rfl (take_ofW HT_.out HW_.out (by kernel_rfl)) (fun _ _ _ h => h) (Or.inl ⟨by rfl, ?_⟩) hHeld ?_ ?_
                        rotate_left
                        · rintro w' ⟨s0, s1, s2, s3, s4⟩
                          go_simp
                          with_reducible rfl
                        rotate_left
                        · simp only [Act.put, List.setIfInBounds_toArray, List.set_cons_zero, List.set_cons_succ, i64_w, i32_w]
                          rfl
                        refine take_ (i := 12) (N := some 54) (v := ?_) (a' := ?_) zb8_Px10 rfl rfl (take_ofW HT_.out HW_.out (by kernel_rfl)) (fun _ _ _ h => h) (Or.inl ⟨by rfl, ?_⟩) hHeld ?_ ?_
                        rotate_left
                        · rintro w' ⟨s0, s1, s2, s3, s4⟩
                          go_simp
                          with_reducible rfl
                        rotate_left
                        · simp only [Act.put, List.setIfInBounds_toArray, List.set_cons_zero, List.set_cons_succ, i64_w, i32_w]
                          rfl
                        refine one_ (i := 3) (N := some 45) zb9_Px10 rfl rfl (one_of HT_.out (by kernel_rfl)) (by decide) (fun K hK => ?_)
                        refine goes_ Tryd.func30 (by kernel_rfl) rfl #[.int .u8 a0_1] (by rfl) rfl rfl (by (try simp only [List.map_toArray, List.map_cons, List.map_nil]); first | done | rfl | (simp only [List.length_drop, List.length_take]; rfl)) ?_
                        with_reducible refine (hibernacleref10_reg.calls k a0_1 t297 _ A28.out).mono ?_
                        rintro e w' ⟨rfl, ⟨nd, rfl⟩⟩
                        refine ⟨_, rfl, ?_⟩
                        refine hK.out _ _ ⟨(blk_cell BK286.out 0).trans rfl, (blk_cell BK286.out 1).trans rfl, (blk_cell BK286.out 2).trans rfl, (blk_cell BK286.out 3).trans rfl, (blk_cell BK286.out 4).trans rfl⟩ (fun hHeld => ?_)
                        clear hK K
                        refine norm_ (a' := ?_) ?_ ?_
                        rotate_left
                        · show Act.put _ (some 45) _ = _
                          simp only [Act.put, List.setIfInBounds_toArray, List.set_cons_zero, List.set_cons_succ, i64_w, i32_w]
                          rfl
                        refine pure_ (i := 4) (N := some 46) (v := ?_) (a' := ?_) zb10_Px10 rfl rfl (any_of HT_.out (by kernel_rfl)) (fun _ _ _ h => h) (Or.inl ⟨by rfl, ?_⟩) ?_ ?_
                        rotate_left
                        · intro w'
                          go_simp
                          with_reducible rfl
                        rotate_left
                        · simp only [Act.put, List.setIfInBounds_toArray, List.set_cons_zero, List.set_cons_succ, i64_w, i32_w]
                          rfl
                        refine pure_ (i := 5) (N := some 47) (v := ?_) (a' := ?_) zb11_Px10 rfl rfl (any_of HT_.out (by kernel_rfl)) (fun _ _ _ h => h) (Or.inl ⟨by rfl, ?_⟩) ?_ ?_
                        rotate_left
                        · intro w'
                          go_simp
                          with_reducible rfl
                        rotate_left
                        · simp only [Act.put, List.setIfInBounds_toArray, List.set_cons_zero, List.set_cons_succ, i64_w, i32_w]
                          rfl
                        refine one_ (i := 8) (N := some 50) zb12_Px10 rfl rfl (one_of HT_.out (by kernel_rfl)) (by decide) (fun K hK => ?_)
                        refine goes_ Tryd.func30 (by kernel_rfl) rfl #[.int .u8 a0_2] (by rfl) rfl rfl (by (try simp only [List.map_toArray, List.map_cons, List.map_nil]); first | done | rfl | (simp only [List.length_drop, List.length_take]; rfl)) ?_
                        with_reducible refine (hibernacleref10_reg.calls k a0_2 t298 _ A31.out).mono ?_
                        rintro e w' ⟨rfl, ⟨nd, rfl⟩⟩
                        refine ⟨_, rfl, ?_⟩
                        refine hK.out _ _ ⟨(blk_cell BK286.out 0).trans rfl, (blk_cell BK286.out 1).trans rfl, (blk_cell BK286.out 2).trans rfl, (blk_cell BK286.out 3).trans rfl, (blk_cell BK286.out 4).trans rfl⟩ (fun hHeld => ?_)
                        clear hK K
                        refine norm_ (a' := ?_) ?_ ?_
                        rotate_left
                        · show Act.put _ (some 50) _ = _
                          simp only [Act.put, List.setIfInBounds_toArray, List.set_cons_zero, List.set_cons_succ, i64_w, i32_w]
                          rfl
                        refine pure_ (i := 9) (N := some 51) (v := ?_) (a' := ?_) zb13_Px10 rfl rfl (any_of HT_.out (by kernel_rfl)) (fun _ _ _ h => h) (Or.inl ⟨by rfl, ?_⟩) ?_ ?_
                        rotate_left
                        · intro w'
                          go_simp
                          with_reducible rfl
                        rotate_left
                        · simp only [Act.put, List.setIfInBounds_toArray, List.set_cons_zero, List.set_cons_succ, i64_w, i32_w]
                          rfl
                        refine pure_ (i := 10) (N := some 52) (v := ?_) (a' := ?_) zb14_Px10 rfl rfl (any_of HT_.out (by kernel_rfl)) (fun _ _ _ h => h) (Or.inl ⟨by rfl, ?_⟩) ?_ ?_
                        rotate_left
                        · intro w'
                          go_simp
                          with_reducible rfl
                        rotate_left
                        · simp only [Act.put, List.setIfInBounds_toArray, List.set_cons_zero, List.set_cons_succ, i64_w, i32_w]
                          rfl
                        refine one_ (i := 13) (N := some 55) zb15_Px10 rfl rfl (one_of HT_.out (by kernel_rfl)) (by decide) (fun K hK => ?_)
                        refine goes_ Tryd.func31 (by kernel_rfl) rfl #[.int .i32 a0_4] (by rfl) rfl rfl (by (try simp only [List.map_toArray, List.map_cons, List.map_nil]); first | done | rfl | (simp only [List.length_drop, List.length_take]; rfl)) ?_
                        with_reducible refine (hibernacleref10_dec.calls k a0_4 t299 _ A34.out).mono ?_
                        rintro e w' ⟨rfl, ⟨nd, rfl⟩⟩
                        refine ⟨_, rfl, ?_⟩
                        refine hK.out _ _ ⟨(blk_cell BK286.out 0).trans rfl, (blk_cell BK286.out 1).trans rfl, (blk_cell BK286.out 2).trans rfl, (blk_cell BK286.out 3).trans rfl, (blk_cell BK286.out 4).trans rfl⟩ (fun hHeld => ?_)
                        clear hK K
                        refine norm_ (a' := ?_) ?_ ?_
                        rotate_left
                        · show Act.put _ (some 55) _ = _
                          simp only [Act.put, List.setIfInBounds_toArray, List.set_cons_zero, List.set_cons_succ, i64_w, i32_w]
                          rfl
                        refine pure_ (i := 14) (N := some 56) (v := ?_) (a' := ?_) zb16_Px10 rfl rfl (any_of HT_.out (by kernel_rfl)) (fun _ _ _ h => h) (Or.inl ⟨by rfl, ?_⟩) ?_ ?_
                        rotate_left
                        · intro w'
                          go_simp
                          with_reducible rfl
                        rotate_left
                        · simp only [Act.put, List.setIfInBounds_toArray, List.set_cons_zero, List.set_cons_succ, i64_w, i32_w]
                          rfl
                        refine pure_ (i := 15) (N := some 2) (v := ?_) (a' := ?_) zb17_Px10 rfl rfl (any_of HT_.out (by kernel_rfl)) (fun _ _ _ h => h) (Or.inl ⟨by rfl, ?_⟩) ?_ ?_
                        rotate_left
                        · intro w'
                          go_simp
                          with_reducible rfl
                        rotate_left
                        · simp only [Act.put, List.setIfInBounds_toArray, List.set_cons_zero, List.set_cons_succ, i64_w, i32_w]
                          rfl
                        refine done_ (done_of HT_.out (by kernel_rfl)) ?_
                        try go_wp2
                        go_ret
                        exact ⟨by first | rfl | (simp [errW_none, errW_some] <;> rfl) | (simp only [← hji5]; first | rfl | (simp [errW_none, errW_some] <;> rfl)) | (simp [*, errW_none, errW_some] <;> rfl), by repeat (first | (with_reducible first | exact HB.out | apply below_alloc | apply pw_below_drewN | apply below_drew1 | refine below_set ?_ GE286.out) | exact HB.out)⟩
                      · rw [if_neg c35] at H
                        exact absurd H (by simp)
                    · rw [if_neg c33] at H
                      exact absurd H (by simp)
                  · rw [if_neg c32] at H
                    exact absurd H (by simp)
                · rw [if_neg c30] at H
                  exact absurd H (by simp)
              · rw [if_neg c29] at H
                exact absurd H (by simp)
            · rw [if_neg c27] at H
              have c27b0 : (t293 == 2) = false := beq_eq_false_iff_ne.mpr c27
              have c27b1 : (t293 != 2) = true := bne_iff_ne.mpr c27
              by_cases c44 : t293 = 3
              · rw [if_pos c44] at H
                have c44b0 : (t293 == 3) = true := beq_iff_eq.mpr c44
                have c44b1 : (t293 != 3) = false := bne_eq_false_iff_eq.mpr c44
                clear c44
                replace H := Option.bind_eq_some_iff.mp H
                obtain ⟨t300, A450, H⟩ := H
                replace H : (if ((rdOf ByteArray.empty t289 (ji5)) ++ (⟨#[32]⟩ : ByteArray)).size + t300.size ≤ 9223372036854775807 then (if (((rdOf ByteArray.empty t289 (ji5)) ++ (⟨#[32]⟩ : ByteArray)) ++ t300).size + 2 ≤ 9223372036854775807 then ((hibernacleref10_dec.f k a0_4).bind fun t301 => (if ((((rdOf ByteArray.empty t289 (ji5)) ++ (⟨#[32]⟩ : ByteArray)) ++ t300) ++ (⟨#[44, 32]⟩ : ByteArray)).size + t301.size ≤ 9223372036854775807 then (some (((((rdOf ByteArray.empty t289 (ji5)) ++ (⟨#[32]⟩ : ByteArray)) ++ t300) ++ (⟨#[44, 32]⟩ : ByteArray)) ++ t301)) else (none))) else (none)) else (none)) = some r := H
                have A45 := Aside0.mk A450
                clear A450
                by_cases c46 : ((rdOf ByteArray.empty t289 (ji5)) ++ (⟨#[32]⟩ : ByteArray)).size + t300.size ≤ 9223372036854775807
                · rw [if_pos c46] at H
                  have c46b0 := eq_true c46
                  have c46b1 : decide (((rdOf ByteArray.empty t289 (ji5)) ++ (⟨#[32]⟩ : ByteArray)).size + t300.size ≤ 9223372036854775807) = true := decide_eq_true c46
                  try have c46b2 : (9223372036854775807 < ((rdOf ByteArray.empty t289 (ji5)) ++ (⟨#[32]⟩ : ByteArray)).size + t300.size) = False := eq_false (Nat.not_lt.2 c46)
                  try (have c46b5 := c46b0; have c46b6 := c46b2; simp only [ByteArray.size_append, ByteArray.size_extract, Int.toNat_natCast, Nat.min_self, size_lit_, List.size_toArray, List.length_cons, List.length_nil, Nat.reduceAdd] at c46b5 c46b6)
                  by_cases c47 : (((rdOf ByteArray.empty t289 (ji5)) ++ (⟨#[32]⟩ : ByteArray)) ++ t300).size + 2 ≤ 9223372036854775807
                  · rw [if_pos c47] at H
                    have c47b0 := eq_true c47
                    have c47b1 : decide ((((rdOf ByteArray.empty t289 (ji5)) ++ (⟨#[32]⟩ : ByteArray)) ++ t300).size + 2 ≤ 9223372036854775807) = true := decide_eq_true c47
                    try have c47b2 : (9223372036854775807 < (((rdOf ByteArray.empty t289 (ji5)) ++ (⟨#[32]⟩ : ByteArray)) ++ t300).size + 2) = False := eq_false (Nat.not_lt.2 c47)
                    try (have c47b5 := c47b0; have c47b6 := c47b2; simp only [ByteArray.size_append, ByteArray.size_extract, Int.toNat_natCast, Nat.min_self, size_lit_, List.size_toArray, List.length_cons, List.length_nil, Nat.reduceAdd] at c47b5 c47b6)
                    replace H := Option.bind_eq_some_iff.mp H
                    obtain ⟨t301, A480, H⟩ := H
                    replace H : (if ((((rdOf ByteArray.empty t289 (ji5)) ++ (⟨#[32]⟩ : ByteArray)) ++ t300) ++ (⟨#[44, 32]⟩ : ByteArray)).size + t301.size ≤ 9223372036854775807 then (some (((((rdOf ByteArray.empty t289 (ji5)) ++ (⟨#[32]⟩ : ByteArray)) ++ t300) ++ (⟨#[44, 32]⟩ : ByteArray)) ++ t301)) else (none)) = some r := H
                    have A48 := Aside0.mk A480
                    clear A480
                    by_cases c49 : ((((rdOf ByteArray.empty t289 (ji5)) ++ (⟨#[32]⟩ : ByteArray)) ++ t300) ++ (⟨#[44, 32]⟩ : ByteArray)).size + t301.size ≤ 9223372036854775807
                    · rw [if_pos c49] at H
                      have c49b0 := eq_true c49
                      have c49b1 : decide (((((rdOf ByteArray.empty t289 (ji5)) ++ (⟨#[32]⟩ : ByteArray)) ++ t300) ++ (⟨#[44, 32]⟩ : ByteArray)).size + t301.size ≤ 9223372036854775807) = true := decide_eq_true c49
                      try have c49b2 : (9223372036854775807 < ((((rdOf ByteArray.empty t289 (ji5)) ++ (⟨#[32]⟩ : ByteArray)) ++ t300) ++ (⟨#[44, 32]⟩ : ByteArray)).size + t301.size) = False := eq_false (Nat.not_lt.2 c49)
                      try (have c49b5 := c49b0; have c49b6 := c49b2; simp only [ByteArray.size_append, ByteArray.size_extract, Int.toNat_natCast, Nat.min_self, size_lit_, List.size_toArray, List.length_cons, List.length_nil, Nat.reduceAdd] at c49b5 c49b6)
                      obtain rfl := Option.some.inj H
                      go_enter Tryd.func16, Tryd.ntmps16
                      try go_wp2_with (first | ((with_reducible refine gate_dst (N := 1) rfl ?_); refine box_event ?hg (N := 1) ?hd (cs := #[.int .u8 a0_0, .int .u8 a0_1, .int .u8 a0_2, .int .u8 a0_3, .int .i32 a0_4]) (t := 23) ?hr ?_; (case hd => rfl); (case hg => rfl); (case hr => first | (go_simp; done) | (go_simp; rfl)); intro gb286 hg w50 hbox hb; have n0_ := Aside0.mk (below_step (by repeat (first | (with_reducible first | exact HB.out | apply below_alloc | apply pw_below_drewN | apply below_drew1) | exact HB.out)) hb); have n1_ := Aside0.mk (hbox); have n2_ := Aside0.mk ((by rw [hg]; exact (below_size (by repeat (first | (with_reducible first | exact HB.out | apply below_alloc | apply pw_below_drewN | apply below_drew1) | exact HB.out))) : w.heap.size ≤ gb286)); have n3_ := Aside0.mk ((by rw [hg]; exact (below_size (by repeat (first | (with_reducible first | exact HB.out | apply below_alloc | apply pw_below_drewN | apply below_drew1) | exact HB.out))) : w.heap.size ≤ gb286)); clear HB; have HB := n0_; have BK286 := n1_; have GW286 := n2_; have GE286 := n3_; clear n0_ n1_ n2_ n3_; clear hb hbox hg; have hcz51_0 : w50.cell? ⟨gb286, 0, none⟩ = some (.int .u8 a0_0) := (blk_cell BK286.out 0).trans rfl; have hcz51_1 : w50.cell? ⟨gb286, 1, none⟩ = some (.int .u8 a0_1) := (blk_cell BK286.out 1).trans rfl; have hcz51_2 : w50.cell? ⟨gb286, 2, none⟩ = some (.int .u8 a0_2) := (blk_cell BK286.out 2).trans rfl; have hcz51_3 : w50.cell? ⟨gb286, 3, none⟩ = some (.int .u8 a0_3) := (blk_cell BK286.out 3).trans rfl; have hcz51_4 : w50.cell? ⟨gb286, 4, none⟩ = some (.int .i32 a0_4) := (blk_cell BK286.out 4).trans rfl; have hfz51_0 := blk_frozen BK286.out 0; have hfz51_1 := blk_frozen BK286.out 1; have hfz51_2 := blk_frozen BK286.out 2; have hfz51_3 := blk_frozen BK286.out 3; have hfz51_4 := blk_frozen BK286.out 4) | ((with_reducible refine gate_callee (f := 12) rfl ?_); refine goesL_ (some 8) rfl rfl Tryd.func12 (by kernel_rfl) rfl #[.agg #[.int .u8 a0_0, .int .u8 a0_1, .int .u8 a0_2, .int .u8 a0_3, .int .i32 a0_4]] rfl (by (try simp only [List.map_toArray, List.map_cons, List.map_nil]); first | done | rfl | (simp only [List.length_drop, List.length_take]; rfl)) ?_; (with_reducible refine (hibernacleref10_Enc.calls k a0_0 a0_1 a0_2 a0_3 a0_4 t287 t288 _ A2.out).mono ?_); rintro e w52 ⟨rfl, hb⟩; refine ⟨_, rfl, ?_⟩; have n0_ := Aside0.mk (blk_below (g := gb286) (o := .cells #[.int .u8 a0_0, .int .u8 a0_1, .int .u8 a0_2, .int .u8 a0_3, .int .i32 a0_4] 23 (0, 0)) (by (with_reducible repeat (first | refine blk_drewN ?_ _ | refine blk_drew ?_ | refine blk_alloc ?_ _)); exact BK286.out) hb); have n1_ := Aside0.mk (below_step (by repeat (first | (with_reducible first | exact HB.out | apply below_alloc | apply pw_below_drewN | apply below_drew1 | refine below_set ?_ GE286.out) | exact HB.out)) hb); clear BK286; clear HB; have BK286 := n0_; have HB := n1_; clear n0_ n1_; (try clear hb); (try clear hb2); (try clear hk); (try clear hi)))
                      have n0_ := Aside0.mk (blk_drew BK286.out)
                      have n1_ := Aside0.mk (below_drew1 HB.out)
                      clear BK286
                      clear HB
                      have BK286 := n0_
                      have HB := n1_
                      clear n0_ n1_
                      refine start_ (n := 8) (S := fun w' => w'.cell? ⟨gb286, 0, none⟩ = some (.int .u8 a0_0) ∧ w'.cell? ⟨gb286, 1, none⟩ = some (.int .u8 a0_1) ∧ w'.cell? ⟨gb286, 2, none⟩ = some (.int .u8 a0_2) ∧ w'.cell? ⟨gb286, 3, none⟩ = some (.int .u8 a0_3) ∧ w'.cell? ⟨gb286, 4, none⟩ = some (.int .i32 a0_4)) (ds := []) #[false, false, false, false, false, false, false, false] (by kernel_rfl) rfl rfl ⟨(blk_cell BK286.out 0).trans rfl, (blk_cell BK286.out 1).trans rfl, (blk_cell BK286.out 2).trans rfl, (blk_cell BK286.out 3).trans rfl, (blk_cell BK286.out 4).trans rfl⟩ (fun hHeld => ?_); refine with_tabW hibernacleref10_Text.tab4 hibernacleref10_Text.bits4 (fun HT_ HW_ => ?_)
                      generalize w52.drew = w53 at BK286 HB hHeld ⊢
                      refine pure_ (i := 1) (N := some 14) (v := ?_) (a' := ?_) #[false, true, false, false, false, false, false, false] rfl rfl (any_of HT_.out (by kernel_rfl)) (fun _ _ _ h => h) (Or.inl ⟨by rfl, ?_⟩) ?_ ?_
                      rotate_left
                      · intro w'
                        go_simp
                        with_reducible rfl
                      rotate_left
                      · simp only [Act.put, List.setIfInBounds_toArray, List.set_cons_zero, List.set_cons_succ, i64_w, i32_w]
                        rfl
                      refine take_ (i := 2) (N := some 15) (v := ?_) (a' := ?_) #[false, true, true, false, false, false, false, false] rfl rfl (take_ofW HT_.out HW_.out (by kernel_rfl)) (fun _ _ _ h => h) (Or.inl ⟨by rfl, ?_⟩) hHeld ?_ ?_
                      rotate_left
                      · rintro w' ⟨s0, s1, s2, s3, s4⟩
                        go_simp
                        with_reducible rfl
                      rotate_left
                      · simp only [Act.put, List.setIfInBounds_toArray, List.set_cons_zero, List.set_cons_succ, i64_w, i32_w]
                        rfl
                      refine pure_ (i := 3) (N := some 16) (v := ?_) (a' := ?_) #[false, true, true, true, false, false, false, false] rfl rfl (any_of HT_.out (by kernel_rfl)) (fun _ _ _ h => h) (Or.inl ⟨by rfl, ?_⟩) ?_ ?_
                      rotate_left
                      · intro w'
                        go_simp
                        with_reducible rfl
                      rotate_left
                      · simp only [Act.put, List.setIfInBounds_toArray, List.set_cons_zero, List.set_cons_succ, i64_w, i32_w]
                        rfl
                      refine one_ (i := 0) (N := some 13) #[true, true, true, true, false, false, false, false] rfl rfl (one_of HT_.out (by kernel_rfl)) (by decide) (fun K hK => ?_)
                      refine goes_ Tryd.func29 (by kernel_rfl) rfl #[] (by rfl) rfl rfl (by (try simp only [List.map_toArray, List.map_cons, List.map_nil]); first | done | rfl | (simp only [List.length_drop, List.length_take]; rfl)) ?_
                      with_reducible refine (hibernacleref10_names.calls  t289 _ A4.out).mono ?_
                      rintro e w54 ⟨v290, rfl, ho0, hb⟩
                      refine ⟨_, rfl, ?_⟩
                      have n0_ := Aside0.mk (Kd.R_lower ho0 (below_size (by repeat (first | (with_reducible first | exact HB.out | apply below_alloc | apply pw_below_drewN | apply below_drew1 | refine below_set ?_ GE286.out) | exact HB.out))))
                      have n1_ := Aside0.mk (blk_below (g := gb286) (o := .cells #[.int .u8 a0_0, .int .u8 a0_1, .int .u8 a0_2, .int .u8 a0_3, .int .i32 a0_4] 23 (0, 0)) (by (with_reducible repeat (first | refine blk_drewN ?_ _ | refine blk_drew ?_ | refine blk_alloc ?_ _)); exact BK286.out) hb)
                      have n2_ := Aside0.mk (below_step (by repeat (first | (with_reducible first | exact HB.out | apply below_alloc | apply pw_below_drewN | apply below_drew1 | refine below_set ?_ GE286.out) | exact HB.out)) hb)
                      clear BK286
                      clear HB
                      have HO291 := n0_
                      have BK286 := n1_
                      have HB := n2_
                      clear n0_ n1_ n2_
                      (try clear hb)
                      (try clear hb2)
                      (try clear hk)
                      (try clear hi)
                      (try clear ho0)
                      obtain ⟨Ao55, co55, eo55⟩ := Kd.R_slice HO291.out
                      (first | subst eo55 | (injection eo55 with f1_ f2_ f3_; have f4_ := f1_.symm; have f5_ := f3_.symm; clear f1_ f2_ f3_; subst f4_; subst f5_))
                      have p292 : 0 ≤ ((ji5) : Int) := of_decide_eq_true (by first | (with_reducible assumption) | assumption)
                      have q292 : (ji5) < (t289.length : Int) := of_decide_eq_true (by first | (with_reducible assumption) | assumption)
                      obtain ⟨ad292, e292, hx292_0⟩ := Kd.at_string (Kd.R_reads' HO291.out).2.2 (ji5) p292 q292
                      cases e292
                      replace p292 := eq_true p292
                      replace q292 := eq_true q292
                      refine hK.out _ _ ⟨(blk_cell BK286.out 0).trans rfl, (blk_cell BK286.out 1).trans rfl, (blk_cell BK286.out 2).trans rfl, (blk_cell BK286.out 3).trans rfl, (blk_cell BK286.out 4).trans rfl⟩ (fun hHeld => ?_)
                      clear hK K
                      refine norm_ (a' := ?_) ?_ ?_
                      rotate_left
                      · show Act.put _ (some 13) _ = _
                        simp only [Act.put, List.setIfInBounds_toArray, List.set_cons_zero, List.set_cons_succ, i64_w, i32_w]
                        rfl
                      refine pure_ (i := 4) (N := some 17) (v := ?_) (a' := ?_) #[true, true, true, true, true, false, false, false] rfl rfl (any_of HT_.out (by kernel_rfl)) (fun _ _ _ h => h) (Or.inl ⟨by rfl, ?_⟩) ?_ ?_
                      rotate_left
                      · intro w'
                        go_simp
                        with_reducible rfl
                      rotate_left
                      · simp only [Act.put, List.setIfInBounds_toArray, List.set_cons_zero, List.set_cons_succ, i64_w, i32_w]
                        rfl
                      refine one_ (i := 5) (N := some 18) #[true, true, true, true, true, true, false, false] rfl rfl (one_of HT_.out (by kernel_rfl)) (by decide) (fun K hK => ?_)
                      go_wp2
                      refine hK.out _ _ ⟨(blk_cell BK286.out 0).trans rfl, (blk_cell BK286.out 1).trans rfl, (blk_cell BK286.out 2).trans rfl, (blk_cell BK286.out 3).trans rfl, (blk_cell BK286.out 4).trans rfl⟩ (fun hHeld => ?_)
                      clear hK K
                      refine pure_ (i := 6) (N := some 19) (v := ?_) (a' := ?_) #[true, true, true, true, true, true, true, false] rfl rfl (any_of HT_.out (by kernel_rfl)) (fun _ _ _ h => h) (Or.inl ⟨by rfl, ?_⟩) ?_ ?_
                      rotate_left
                      · intro w'
                        go_simp
                        with_reducible rfl
                      rotate_left
                      · simp only [Act.put, List.setIfInBounds_toArray, List.set_cons_zero, List.set_cons_succ, i64_w, i32_w]
                        rfl
                      refine pure_ (i := 7) (N := some 5) (v := ?_) (a' := ?_) #[true, true, true, true, true, true, true, true] rfl rfl (any_of HT_.out (by kernel_rfl)) (fun _ _ _ h => h) (Or.inl ⟨by rfl, ?_⟩) ?_ ?_
                      rotate_left
                      · intro w'
                        go_simp
                        with_reducible rfl
                      rotate_left
                      · simp only [Act.put, List.setIfInBounds_toArray, List.set_cons_zero, List.set_cons_succ, i64_w, i32_w]
                        rfl
                      refine done_ (done_of HT_.out (by kernel_rfl)) ?_
                      have hcz56_0 : w54.cell? ⟨gb286, 0, none⟩ = some (.int .u8 a0_0) := (blk_cell BK286.out 0).trans rfl
                      have hcz56_1 : w54.cell? ⟨gb286, 1, none⟩ = some (.int .u8 a0_1) := (blk_cell BK286.out 1).trans rfl
                      have hcz56_2 : w54.cell? ⟨gb286, 2, none⟩ = some (.int .u8 a0_2) := (blk_cell BK286.out 2).trans rfl
                      have hcz56_3 : w54.cell? ⟨gb286, 3, none⟩ = some (.int .u8 a0_3) := (blk_cell BK286.out 3).trans rfl
                      have hcz56_4 : w54.cell? ⟨gb286, 4, none⟩ = some (.int .i32 a0_4) := (blk_cell BK286.out 4).trans rfl
                      have hfz56_0 := blk_frozen BK286.out 0
                      have hfz56_1 := blk_frozen BK286.out 1
                      have hfz56_2 := blk_frozen BK286.out 2
                      have hfz56_3 := blk_frozen BK286.out 3
                      have hfz56_4 := blk_frozen BK286.out 4
                      try go_wp2_with (first | ((with_reducible refine gate_callee (f := 22) rfl ?_); refine goesL_ (some 22) rfl rfl Tryd.func22 (by kernel_rfl) rfl #[.int .u8 a0_0] rfl (by (try simp only [List.map_toArray, List.map_cons, List.map_nil]); first | done | rfl | (simp only [List.length_drop, List.length_take]; rfl)) ?_; (with_reducible refine (hibernacleref10_Form.calls k a0_0 t293 _ A9.out).mono ?_); rintro e w' ⟨rfl, ⟨nd, rfl⟩⟩; refine ⟨_, rfl, ?_⟩))
                      (try (rw [drewN_self w54]; generalize hq_ : World.drewN w54 _ = w54; have n0_ : Aside0 (Kd.R Kd.string 9 w54 w.heap.size (fun _ => True) (.slice (some ad292) t289.length co55) t289) := ⟨by rw [← hq_]; exact (by (with_reducible repeat (first | apply Kd.R_alloc | apply Kd.R_drewN | apply Kd.R_drew)); exact HO291.out)⟩; have n1_ : Aside0 (w54.heap[gb286]? = some (.cells #[.int .u8 a0_0, .int .u8 a0_1, .int .u8 a0_2, .int .u8 a0_3, .int .i32 a0_4] 23 (0, 0))) := ⟨by rw [← hq_]; exact (by (with_reducible repeat (first | refine blk_drewN ?_ _ | refine blk_drew ?_ | refine blk_alloc ?_ _)); exact BK286.out)⟩; have n2_ : Aside0 (Below w.heap.size w w54) := ⟨by rw [← hq_]; exact (by repeat (first | (with_reducible first | exact HB.out | apply below_alloc | apply pw_below_drewN | apply below_drew1 | refine below_set ?_ GE286.out) | exact HB.out))⟩; clear HO291 BK286 HB hq_; have HO291 := n0_; have BK286 := n1_; have HB := n2_; clear n0_ n1_ n2_))
                      have n0_ := Aside0.mk (Kd.R_drew HO291.out)
                      have n1_ := Aside0.mk (blk_drew BK286.out)
                      have n2_ := Aside0.mk (below_drew1 HB.out)
                      clear HO291
                      clear BK286
                      clear HB
                      have HO291 := n0_
                      have BK286 := n1_
                      have HB := n2_
                      clear n0_ n1_ n2_
                      refine start_ (n := 11) (S := fun w' => w'.cell? ⟨gb286, 0, none⟩ = some (.int .u8 a0_0) ∧ w'.cell? ⟨gb286, 1, none⟩ = some (.int .u8 a0_1) ∧ w'.cell? ⟨gb286, 2, none⟩ = some (.int .u8 a0_2) ∧ w'.cell? ⟨gb286, 3, none⟩ = some (.int .u8 a0_3) ∧ w'.cell? ⟨gb286, 4, none⟩ = some (.int .i32 a0_4)) (ds := []) #[false, false, false, false, false, false, false, false, false, false, false] (by kernel_rfl) rfl rfl ⟨(blk_cell BK286.out 0).trans rfl, (blk_cell BK286.out 1).trans rfl, (blk_cell BK286.out 2).trans rfl, (blk_cell BK286.out 3).trans rfl, (blk_cell BK286.out 4).trans rfl⟩ (fun hHeld => ?_); refine with_tabW hibernacleref10_Text.tab11 hibernacleref10_Text.bits11 (fun HT_ HW_ => ?_)
                      generalize w54.drew = w57 at HO291 BK286 HB hHeld ⊢
                      refine pure_ (i := 0) (N := some 59) (v := ?_) (a' := ?_) #[true, false, false, false, false, false, false, false, false, false, false] rfl rfl (any_of HT_.out (by kernel_rfl)) (fun _ _ _ h => h) (Or.inl ⟨by rfl, ?_⟩) ?_ ?_
                      rotate_left
                      · intro w'
                        go_simp
                        with_reducible rfl
                      rotate_left
                      · simp only [Act.put, List.setIfInBounds_toArray, List.set_cons_zero, List.set_cons_succ, i64_w, i32_w]
                        rfl
                      refine pure_ (i := 1) (N := some 60) (v := ?_) (a' := ?_) #[true, true, false, false, false, false, false, false, false, false, false] rfl rfl (any_of HT_.out (by kernel_rfl)) (fun _ _ _ h => h) (Or.inl ⟨by rfl, ?_⟩) ?_ ?_
                      rotate_left
                      · intro w'
                        go_simp
                        with_reducible rfl
                      rotate_left
                      · simp only [Act.put, List.setIfInBounds_toArray, List.set_cons_zero, List.set_cons_succ, i64_w, i32_w]
                        rfl
                      refine pure_ (i := 6) (N := some 65) (v := ?_) (a' := ?_) #[true, true, false, false, false, false, true, false, false, false, false] rfl rfl (any_of HT_.out (by kernel_rfl)) (fun _ _ _ h => h) (Or.inl ⟨by rfl, ?_⟩) ?_ ?_
                      rotate_left
                      · intro w'
                        go_simp
                        with_reducible rfl
                      rotate_left
                      · simp only [Act.put, List.setIfInBounds_toArray, List.set_cons_zero, List.set_cons_succ, i64_w, i32_w]
                        rfl
                      refine take_ (i := 2) (N := some 61) (v := ?_) (a' := ?_) #[true, true, true, false, false, false, true, false, false, false, false] rfl rfl (take_ofW HT_.out HW_.out (by kernel_rfl)) (fun _ _ _ h => h) (Or.inl ⟨by rfl, ?_⟩) hHeld ?_ ?_
                      rotate_left
                      · rintro w' ⟨s0, s1, s2, s3, s4⟩
                        go_simp
                        with_reducible rfl
                      rotate_left
                      · simp only [Act.put, List.setIfInBounds_toArray, List.set_cons_zero, List.set_cons_succ, i64_w, i32_w]
                        rfl
                      refine take_ (i := 7) (N := some 66) (v := ?_) (a' := ?_) #[true, true, true, false, false, false, true, true, false, false, false] rfl rfl (take_ofW HT_.out HW_.out (by kernel_rfl)) (fun _ _ _ h => h) (Or.inl ⟨by rfl, ?_⟩) hHeld ?_ ?_
                      rotate_left
                      · rintro w' ⟨s0, s1, s2, s3, s4⟩
                        go_simp
                        with_reducible rfl
                      rotate_left
                      · simp only [Act.put, List.setIfInBounds_toArray, List.set_cons_zero, List.set_cons_succ, i64_w, i32_w]
                        rfl
                      refine one_ (i := 3) (N := some 62) #[true, true, true, true, false, false, true, true, false, false, false] rfl rfl (one_of HT_.out (by kernel_rfl)) (by decide) (fun K hK => ?_)
                      refine goes_ Tryd.func30 (by kernel_rfl) rfl #[.int .u8 a0_1] (by rfl) rfl rfl (by (try simp only [List.map_toArray, List.map_cons, List.map_nil]); first | done | rfl | (simp only [List.length_drop, List.length_take]; rfl)) ?_
                      with_reducible refine (hibernacleref10_reg.calls k a0_1 t300 _ A45.out).mono ?_
                      rintro e w' ⟨rfl, ⟨nd, rfl⟩⟩
                      refine ⟨_, rfl, ?_⟩
                      refine hK.out _ _ ⟨(blk_cell BK286.out 0).trans rfl, (blk_cell BK286.out 1).trans rfl, (blk_cell BK286.out 2).trans rfl, (blk_cell BK286.out 3).trans rfl, (blk_cell BK286.out 4).trans rfl⟩ (fun hHeld => ?_)
                      clear hK K
                      refine norm_ (a' := ?_) ?_ ?_
                      rotate_left
                      · show Act.put _ (some 62) _ = _
                        simp only [Act.put, List.setIfInBounds_toArray, List.set_cons_zero, List.set_cons_succ, i64_w, i32_w]
                        rfl
                      refine pure_ (i := 4) (N := some 63) (v := ?_) (a' := ?_) #[true, true, true, true, true, false, true, true, false, false, false] rfl rfl (any_of HT_.out (by kernel_rfl)) (fun _ _ _ h => h) (Or.inl ⟨by rfl, ?_⟩) ?_ ?_
                      rotate_left
                      · intro w'
                        go_simp
                        with_reducible rfl
                      rotate_left
                      · simp only [Act.put, List.setIfInBounds_toArray, List.set_cons_zero, List.set_cons_succ, i64_w, i32_w]
                        rfl
                      refine pure_ (i := 5) (N := some 64) (v := ?_) (a' := ?_) #[true, true, true, true, true, true, true, true, false, false, false] rfl rfl (any_of HT_.out (by kernel_rfl)) (fun _ _ _ h => h) (Or.inl ⟨by rfl, ?_⟩) ?_ ?_
                      rotate_left
                      · intro w'
                        go_simp
                        with_reducible rfl
                      rotate_left
                      · simp only [Act.put, List.setIfInBounds_toArray, List.set_cons_zero, List.set_cons_succ, i64_w, i32_w]
                        rfl
                      refine one_ (i := 8) (N := some 67) #[true, true, true, true, true, true, true, true, true, false, false] rfl rfl (one_of HT_.out (by kernel_rfl)) (by decide) (fun K hK => ?_)
                      refine goes_ Tryd.func31 (by kernel_rfl) rfl #[.int .i32 a0_4] (by rfl) rfl rfl (by (try simp only [List.map_toArray, List.map_cons, List.map_nil]); first | done | rfl | (simp only [List.length_drop, List.length_take]; rfl)) ?_
                      with_reducible refine (hibernacleref10_dec.calls k a0_4 t301 _ A48.out).mono ?_
                      rintro e w' ⟨rfl, ⟨nd, rfl⟩⟩
                      refine ⟨_, rfl, ?_⟩
                      refine hK.out _ _ ⟨(blk_cell BK286.out 0).trans rfl, (blk_cell BK286.out 1).trans rfl, (blk_cell BK286.out 2).trans rfl, (blk_cell BK286.out 3).trans rfl, (blk_cell BK286.out 4).trans rfl⟩ (fun hHeld => ?_)
                      clear hK K
                      refine norm_ (a' := ?_) ?_ ?_
                      rotate_left
                      · show Act.put _ (some 67) _ = _
                        simp only [Act.put, List.setIfInBounds_toArray, List.set_cons_zero, List.set_cons_succ, i64_w, i32_w]
                        rfl
                      refine pure_ (i := 9) (N := some 68) (v := ?_) (a' := ?_) #[true, true, true, true, true, true, true, true, true, true, false] rfl rfl (any_of HT_.out (by kernel_rfl)) (fun _ _ _ h => h) (Or.inl ⟨by rfl, ?_⟩) ?_ ?_
                      rotate_left
                      · intro w'
                        go_simp
                        with_reducible rfl
                      rotate_left
                      · simp only [Act.put, List.setIfInBounds_toArray, List.set_cons_zero, List.set_cons_succ, i64_w, i32_w]
                        rfl
                      refine pure_ (i := 10) (N := some 2) (v := ?_) (a' := ?_) #[true, true, true, true, true, true, true, true, true, true, true] rfl rfl (any_of HT_.out (by kernel_rfl)) (fun _ _ _ h => h) (Or.inl ⟨by rfl, ?_⟩) ?_ ?_
                      rotate_left
                      · intro w'
                        go_simp
                        with_reducible rfl
                      rotate_left
                      · simp only [Act.put, List.setIfInBounds_toArray, List.set_cons_zero, List.set_cons_succ, i64_w, i32_w]
                        rfl
                      refine done_ (done_of HT_.out (by kernel_rfl)) ?_
                      try go_wp2
                      go_ret
                      exact ⟨by first | rfl | (simp [errW_none, errW_some] <;> rfl) | (simp only [← hji5]; first | rfl | (simp [errW_none, errW_some] <;> rfl)) | (simp [*, errW_none, errW_some] <;> rfl), by repeat (first | (with_reducible first | exact HB.out | apply below_alloc | apply pw_below_drewN | apply below_drew1 | refine below_set ?_ GE286.out) | exact HB.out)⟩
                    · rw [if_neg c49] at H
                      exact absurd H (by simp)
                  · rw [if_neg c47] at H
                    exact absurd H (by simp)
                · rw [if_neg c46] at H
                  exact absurd H (by simp)
              · rw [if_neg c44] at H
                have c44b0 : (t293 == 3) = false := beq_eq_false_iff_ne.mpr c44
                have c44b1 : (t293 != 3) = true := bne_iff_ne.mpr c44
                by_cases c58 : t293 = 4
                · rw [if_pos c58] at H
                  have c58b0 : (t293 == 4) = true := beq_iff_eq.mpr c58
                  have c58b1 : (t293 != 4) = false := bne_eq_false_iff_eq.mpr c58
                  clear c58
                  replace H := Option.bind_eq_some_iff.mp H
                  obtain ⟨t302, A590, H⟩ := H
                  replace H : (if ((rdOf ByteArray.empty t289 (ji5)) ++ (⟨#[32]⟩ : ByteArray)).size + t302.size ≤ 9223372036854775807 then (if (((rdOf ByteArray.empty t289 (ji5)) ++ (⟨#[32]⟩ : ByteArray)) ++ t302).size + 2 ≤ 9223372036854775807 then ((hibernacleref10_dec.f k a0_4).bind fun t303 => (if ((((rdOf ByteArray.empty t289 (ji5)) ++ (⟨#[32]⟩ : ByteArray)) ++ t302) ++ (⟨#[44, 32]⟩ : ByteArray)).size + t303.size ≤ 9223372036854775807 then (if (((((rdOf ByteArray.empty t289 (ji5)) ++ (⟨#[32]⟩ : ByteArray)) ++ t302) ++ (⟨#[44, 32]⟩ : ByteArray)) ++ t303).size + 1 ≤ 9223372036854775807 then ((hibernacleref10_reg.f k a0_2).bind fun t304 => (if ((((((rdOf ByteArray.empty t289 (ji5)) ++ (⟨#[32]⟩ : ByteArray)) ++ t302) ++ (⟨#[44, 32]⟩ : ByteArray)) ++ t303) ++ (⟨#[40]⟩ : ByteArray)).size + t304.size ≤ 9223372036854775807 then (if (((((((rdOf ByteArray.empty t289 (ji5)) ++ (⟨#[32]⟩ : ByteArray)) ++ t302) ++ (⟨#[44, 32]⟩ : ByteArray)) ++ t303) ++ (⟨#[40]⟩ : ByteArray)) ++ t304).size + 1 ≤ 9223372036854775807 then (some ((((((((rdOf ByteArray.empty t289 (ji5)) ++ (⟨#[32]⟩ : ByteArray)) ++ t302) ++ (⟨#[44, 32]⟩ : ByteArray)) ++ t303) ++ (⟨#[40]⟩ : ByteArray)) ++ t304) ++ (⟨#[41]⟩ : ByteArray))) else (none)) else (none))) else (none)) else (none))) else (none)) else (none)) = some r := H
                  have A59 := Aside0.mk A590
                  clear A590
                  by_cases c60 : ((rdOf ByteArray.empty t289 (ji5)) ++ (⟨#[32]⟩ : ByteArray)).size + t302.size ≤ 9223372036854775807
                  · rw [if_pos c60] at H
                    have c60b0 := eq_true c60
                    have c60b1 : decide (((rdOf ByteArray.empty t289 (ji5)) ++ (⟨#[32]⟩ : ByteArray)).size + t302.size ≤ 9223372036854775807) = true := decide_eq_true c60
                    try have c60b2 : (9223372036854775807 < ((rdOf ByteArray.empty t289 (ji5)) ++ (⟨#[32]⟩ : ByteArray)).size + t302.size) = False := eq_false (Nat.not_lt.2 c60)
                    try (have c60b5 := c60b0; have c60b6 := c60b2; simp only [ByteArray.size_append, ByteArray.size_extract, Int.toNat_natCast, Nat.min_self, size_lit_, List.size_toArray, List.length_cons, List.length_nil, Nat.reduceAdd] at c60b5 c60b6)
                    by_cases c61 : (((rdOf ByteArray.empty t289 (ji5)) ++ (⟨#[32]⟩ : ByteArray)) ++ t302).size + 2 ≤ 9223372036854775807
                    · rw [if_pos c61] at H
                      have c61b0 := eq_true c61
                      have c61b1 : decide ((((rdOf ByteArray.empty t289 (ji5)) ++ (⟨#[32]⟩ : ByteArray)) ++ t302).size + 2 ≤ 9223372036854775807) = true := decide_eq_true c61
                      try have c61b2 : (9223372036854775807 < (((rdOf ByteArray.empty t289 (ji5)) ++ (⟨#[32]⟩ : ByteArray)) ++ t302).size + 2) = False := eq_false (Nat.not_lt.2 c61)
                      try (have c61b5 := c61b0; have c61b6 := c61b2; simp only [ByteArray.size_append, ByteArray.size_extract, Int.toNat_natCast, Nat.min_self, size_lit_, List.size_toArray, List.length_cons, List.length_nil, Nat.reduceAdd] at c61b5 c61b6)
                      replace H := Option.bind_eq_some_iff.mp H
                      obtain ⟨t303, A620, H⟩ := H
                      replace H : (if ((((rdOf ByteArray.empty t289 (ji5)) ++ (⟨#[32]⟩ : ByteArray)) ++ t302) ++ (⟨#[44, 32]⟩ : ByteArray)).size + t303.size ≤ 9223372036854775807 then (if (((((rdOf ByteArray.empty t289 (ji5)) ++ (⟨#[32]⟩ : ByteArray)) ++ t302) ++ (⟨#[44, 32]⟩ : ByteArray)) ++ t303).size + 1 ≤ 9223372036854775807 then ((hibernacleref10_reg.f k a0_2).bind fun t304 => (if ((((((rdOf ByteArray.empty t289 (ji5)) ++ (⟨#[32]⟩ : ByteArray)) ++ t302) ++ (⟨#[44, 32]⟩ : ByteArray)) ++ t303) ++ (⟨#[40]⟩ : ByteArray)).size + t304.size ≤ 9223372036854775807 then (if (((((((rdOf ByteArray.empty t289 (ji5)) ++ (⟨#[32]⟩ : ByteArray)) ++ t302) ++ (⟨#[44, 32]⟩ : ByteArray)) ++ t303) ++ (⟨#[40]⟩ : ByteArray)) ++ t304).size + 1 ≤ 9223372036854775807 then (some ((((((((rdOf ByteArray.empty t289 (ji5)) ++ (⟨#[32]⟩ : ByteArray)) ++ t302) ++ (⟨#[44, 32]⟩ : ByteArray)) ++ t303) ++ (⟨#[40]⟩ : ByteArray)) ++ t304) ++ (⟨#[41]⟩ : ByteArray))) else (none)) else (none))) else (none)) else (none)) = some r := H
                      have A62 := Aside0.mk A620
                      clear A620
                      by_cases c63 : ((((rdOf ByteArray.empty t289 (ji5)) ++ (⟨#[32]⟩ : ByteArray)) ++ t302) ++ (⟨#[44, 32]⟩ : ByteArray)).size + t303.size ≤ 9223372036854775807
                      · rw [if_pos c63] at H
                        have c63b0 := eq_true c63
                        have c63b1 : decide (((((rdOf ByteArray.empty t289 (ji5)) ++ (⟨#[32]⟩ : ByteArray)) ++ t302) ++ (⟨#[44, 32]⟩ : ByteArray)).size + t303.size ≤ 9223372036854775807) = true := decide_eq_true c63
                        try have c63b2 : (9223372036854775807 < ((((rdOf ByteArray.empty t289 (ji5)) ++ (⟨#[32]⟩ : ByteArray)) ++ t302) ++ (⟨#[44, 32]⟩ : ByteArray)).size + t303.size) = False := eq_false (Nat.not_lt.2 c63)
                        try (have c63b5 := c63b0; have c63b6 := c63b2; simp only [ByteArray.size_append, ByteArray.size_extract, Int.toNat_natCast, Nat.min_self, size_lit_, List.size_toArray, List.length_cons, List.length_nil, Nat.reduceAdd] at c63b5 c63b6)
                        by_cases c64 : (((((rdOf ByteArray.empty t289 (ji5)) ++ (⟨#[32]⟩ : ByteArray)) ++ t302) ++ (⟨#[44, 32]⟩ : ByteArray)) ++ t303).size + 1 ≤ 9223372036854775807
                        · rw [if_pos c64] at H
                          have c64b0 := eq_true c64
                          have c64b1 : decide ((((((rdOf ByteArray.empty t289 (ji5)) ++ (⟨#[32]⟩ : ByteArray)) ++ t302) ++ (⟨#[44, 32]⟩ : ByteArray)) ++ t303).size + 1 ≤ 9223372036854775807) = true := decide_eq_true c64
                          try have c64b2 : (9223372036854775807 < (((((rdOf ByteArray.empty t289 (ji5)) ++ (⟨#[32]⟩ : ByteArray)) ++ t302) ++ (⟨#[44, 32]⟩ : ByteArray)) ++ t303).size + 1) = False := eq_false (Nat.not_lt.2 c64)
                          try (have c64b5 := c64b0; have c64b6 := c64b2; simp only [ByteArray.size_append, ByteArray.size_extract, Int.toNat_natCast, Nat.min_self, size_lit_, List.size_toArray, List.length_cons, List.length_nil, Nat.reduceAdd] at c64b5 c64b6)
                          replace H := Option.bind_eq_some_iff.mp H
                          obtain ⟨t304, A650, H⟩ := H
                          replace H : (if ((((((rdOf ByteArray.empty t289 (ji5)) ++ (⟨#[32]⟩ : ByteArray)) ++ t302) ++ (⟨#[44, 32]⟩ : ByteArray)) ++ t303) ++ (⟨#[40]⟩ : ByteArray)).size + t304.size ≤ 9223372036854775807 then (if (((((((rdOf ByteArray.empty t289 (ji5)) ++ (⟨#[32]⟩ : ByteArray)) ++ t302) ++ (⟨#[44, 32]⟩ : ByteArray)) ++ t303) ++ (⟨#[40]⟩ : ByteArray)) ++ t304).size + 1 ≤ 9223372036854775807 then (some ((((((((rdOf ByteArray.empty t289 (ji5)) ++ (⟨#[32]⟩ : ByteArray)) ++ t302) ++ (⟨#[44, 32]⟩ : ByteArray)) ++ t303) ++ (⟨#[40]⟩ : ByteArray)) ++ t304) ++ (⟨#[41]⟩ : ByteArray))) else (none)) else (none)) = some r := H
                          have A65 := Aside0.mk A650
                          clear A650
                          by_cases c66 : ((((((rdOf ByteArray.empty t289 (ji5)) ++ (⟨#[32]⟩ : ByteArray)) ++ t302) ++ (⟨#[44, 32]⟩ : ByteArray)) ++ t303) ++ (⟨#[40]⟩ : ByteArray)).size + t304.size ≤ 9223372036854775807
                          · rw [if_pos c66] at H
                            have c66b0 := eq_true c66
                            have c66b1 : decide (((((((rdOf ByteArray.empty t289 (ji5)) ++ (⟨#[32]⟩ : ByteArray)) ++ t302) ++ (⟨#[44, 32]⟩ : ByteArray)) ++ t303) ++ (⟨#[40]⟩ : ByteArray)).size + t304.size ≤ 9223372036854775807) = true := decide_eq_true c66
                            try have c66b2 : (9223372036854775807 < ((((((rdOf ByteArray.empty t289 (ji5)) ++ (⟨#[32]⟩ : ByteArray)) ++ t302) ++ (⟨#[44, 32]⟩ : ByteArray)) ++ t303) ++ (⟨#[40]⟩ : ByteArray)).size + t304.size) = False := eq_false (Nat.not_lt.2 c66)
                            try (have c66b5 := c66b0; have c66b6 := c66b2; simp only [ByteArray.size_append, ByteArray.size_extract, Int.toNat_natCast, Nat.min_self, size_lit_, List.size_toArray, List.length_cons, List.length_nil, Nat.reduceAdd] at c66b5 c66b6)
                            by_cases c67 : (((((((rdOf ByteArray.empty t289 (ji5)) ++ (⟨#[32]⟩ : ByteArray)) ++ t302) ++ (⟨#[44, 32]⟩ : ByteArray)) ++ t303) ++ (⟨#[40]⟩ : ByteArray)) ++ t304).size + 1 ≤ 9223372036854775807
                            · rw [if_pos c67] at H
                              have c67b0 := eq_true c67
                              have c67b1 : decide ((((((((rdOf ByteArray.empty t289 (ji5)) ++ (⟨#[32]⟩ : ByteArray)) ++ t302) ++ (⟨#[44, 32]⟩ : ByteArray)) ++ t303) ++ (⟨#[40]⟩ : ByteArray)) ++ t304).size + 1 ≤ 9223372036854775807) = true := decide_eq_true c67
                              try have c67b2 : (9223372036854775807 < (((((((rdOf ByteArray.empty t289 (ji5)) ++ (⟨#[32]⟩ : ByteArray)) ++ t302) ++ (⟨#[44, 32]⟩ : ByteArray)) ++ t303) ++ (⟨#[40]⟩ : ByteArray)) ++ t304).size + 1) = False := eq_false (Nat.not_lt.2 c67)
                              try (have c67b5 := c67b0; have c67b6 := c67b2; simp only [ByteArray.size_append, ByteArray.size_extract, Int.toNat_natCast, Nat.min_self, size_lit_, List.size_toArray, List.length_cons, List.length_nil, Nat.reduceAdd] at c67b5 c67b6)
                              obtain rfl := Option.some.inj H
                              go_enter Tryd.func16, Tryd.ntmps16
                              try go_wp2_with (first | ((with_reducible refine gate_dst (N := 1) rfl ?_); refine box_event ?hg (N := 1) ?hd (cs := #[.int .u8 a0_0, .int .u8 a0_1, .int .u8 a0_2, .int .u8 a0_3, .int .i32 a0_4]) (t := 23) ?hr ?_; (case hd => rfl); (case hg => rfl); (case hr => first | (go_simp; done) | (go_simp; rfl)); intro gb286 hg w68 hbox hb; have n0_ := Aside0.mk (below_step (by repeat (first | (with_reducible first | exact HB.out | apply below_alloc | apply pw_below_drewN | apply below_drew1) | exact HB.out)) hb); have n1_ := Aside0.mk (hbox); have n2_ := Aside0.mk ((by rw [hg]; exact (below_size (by repeat (first | (with_reducible first | exact HB.out | apply below_alloc | apply pw_below_drewN | apply below_drew1) | exact HB.out))) : w.heap.size ≤ gb286)); have n3_ := Aside0.mk ((by rw [hg]; exact (below_size (by repeat (first | (with_reducible first | exact HB.out | apply below_alloc | apply pw_below_drewN | apply below_drew1) | exact HB.out))) : w.heap.size ≤ gb286)); clear HB; have HB := n0_; have BK286 := n1_; have GW286 := n2_; have GE286 := n3_; clear n0_ n1_ n2_ n3_; clear hb hbox hg; have hcz69_0 : w68.cell? ⟨gb286, 0, none⟩ = some (.int .u8 a0_0) := (blk_cell BK286.out 0).trans rfl; have hcz69_1 : w68.cell? ⟨gb286, 1, none⟩ = some (.int .u8 a0_1) := (blk_cell BK286.out 1).trans rfl; have hcz69_2 : w68.cell? ⟨gb286, 2, none⟩ = some (.int .u8 a0_2) := (blk_cell BK286.out 2).trans rfl; have hcz69_3 : w68.cell? ⟨gb286, 3, none⟩ = some (.int .u8 a0_3) := (blk_cell BK286.out 3).trans rfl; have hcz69_4 : w68.cell? ⟨gb286, 4, none⟩ = some (.int .i32 a0_4) := (blk_cell BK286.out 4).trans rfl; have hfz69_0 := blk_frozen BK286.out 0; have hfz69_1 := blk_frozen BK286.out 1; have hfz69_2 := blk_frozen BK286.out 2; have hfz69_3 := blk_frozen BK286.out 3; have hfz69_4 := blk_frozen BK286.out 4) | ((with_reducible refine gate_callee (f := 12) rfl ?_); refine goesL_ (some 8) rfl rfl Tryd.func12 (by kernel_rfl) rfl #[.agg #[.int .u8 a0_0, .int .u8 a0_1, .int .u8 a0_2, .int .u8 a0_3, .int .i32 a0_4]] rfl (by (try simp only [List.map_toArray, List.map_cons, List.map_nil]); first | done | rfl | (simp only [List.length_drop, List.length_take]; rfl)) ?_; (with_reducible refine (hibernacleref10_Enc.calls k a0_0 a0_1 a0_2 a0_3 a0_4 t287 t288 _ A2.out).mono ?_); rintro e w70 ⟨rfl, hb⟩; refine ⟨_, rfl, ?_⟩; have n0_ := Aside0.mk (blk_below (g := gb286) (o := .cells #[.int .u8 a0_0, .int .u8 a0_1, .int .u8 a0_2, .int .u8 a0_3, .int .i32 a0_4] 23 (0, 0)) (by (with_reducible repeat (first | refine blk_drewN ?_ _ | refine blk_drew ?_ | refine blk_alloc ?_ _)); exact BK286.out) hb); have n1_ := Aside0.mk (below_step (by repeat (first | (with_reducible first | exact HB.out | apply below_alloc | apply pw_below_drewN | apply below_drew1 | refine below_set ?_ GE286.out) | exact HB.out)) hb); clear BK286; clear HB; have BK286 := n0_; have HB := n1_; clear n0_ n1_; (try clear hb); (try clear hb2); (try clear hk); (try clear hi)))
                              have n0_ := Aside0.mk (blk_drew BK286.out)
                              have n1_ := Aside0.mk (below_drew1 HB.out)
                              clear BK286
                              clear HB
                              have BK286 := n0_
                              have HB := n1_
                              clear n0_ n1_
                              refine start_ (n := 8) (S := fun w' => w'.cell? ⟨gb286, 0, none⟩ = some (.int .u8 a0_0) ∧ w'.cell? ⟨gb286, 1, none⟩ = some (.int .u8 a0_1) ∧ w'.cell? ⟨gb286, 2, none⟩ = some (.int .u8 a0_2) ∧ w'.cell? ⟨gb286, 3, none⟩ = some (.int .u8 a0_3) ∧ w'.cell? ⟨gb286, 4, none⟩ = some (.int .i32 a0_4)) (ds := []) #[false, false, false, false, false, false, false, false] (by kernel_rfl) rfl rfl ⟨(blk_cell BK286.out 0).trans rfl, (blk_cell BK286.out 1).trans rfl, (blk_cell BK286.out 2).trans rfl, (blk_cell BK286.out 3).trans rfl, (blk_cell BK286.out 4).trans rfl⟩ (fun hHeld => ?_); refine with_tabW hibernacleref10_Text.tab4 hibernacleref10_Text.bits4 (fun HT_ HW_ => ?_)
                              generalize w70.drew = w71 at BK286 HB hHeld ⊢
                              refine pure_ (i := 1) (N := some 14) (v := ?_) (a' := ?_) #[false, true, false, false, false, false, false, false] rfl rfl (any_of HT_.out (by kernel_rfl)) (fun _ _ _ h => h) (Or.inl ⟨by rfl, ?_⟩) ?_ ?_
                              rotate_left
                              · intro w'
                                go_simp
                                with_reducible rfl
                              rotate_left
                              · simp only [Act.put, List.setIfInBounds_toArray, List.set_cons_zero, List.set_cons_succ, i64_w, i32_w]
                                rfl
                              refine take_ (i := 2) (N := some 15) (v := ?_) (a' := ?_) #[false, true, true, false, false, false, false, false] rfl rfl (take_ofW HT_.out HW_.out (by kernel_rfl)) (fun _ _ _ h => h) (Or.inl ⟨by rfl, ?_⟩) hHeld ?_ ?_
                              rotate_left
                              · rintro w' ⟨s0, s1, s2, s3, s4⟩
                                go_simp
                                with_reducible rfl
                              rotate_left
                              · simp only [Act.put, List.setIfInBounds_toArray, List.set_cons_zero, List.set_cons_succ, i64_w, i32_w]
                                rfl
                              refine pure_ (i := 3) (N := some 16) (v := ?_) (a' := ?_) #[false, true, true, true, false, false, false, false] rfl rfl (any_of HT_.out (by kernel_rfl)) (fun _ _ _ h => h) (Or.inl ⟨by rfl, ?_⟩) ?_ ?_
                              rotate_left
                              · intro w'
                                go_simp
                                with_reducible rfl
                              rotate_left
                              · simp only [Act.put, List.setIfInBounds_toArray, List.set_cons_zero, List.set_cons_succ, i64_w, i32_w]
                                rfl
                              refine one_ (i := 0) (N := some 13) #[true, true, true, true, false, false, false, false] rfl rfl (one_of HT_.out (by kernel_rfl)) (by decide) (fun K hK => ?_)
                              refine goes_ Tryd.func29 (by kernel_rfl) rfl #[] (by rfl) rfl rfl (by (try simp only [List.map_toArray, List.map_cons, List.map_nil]); first | done | rfl | (simp only [List.length_drop, List.length_take]; rfl)) ?_
                              with_reducible refine (hibernacleref10_names.calls  t289 _ A4.out).mono ?_
                              rintro e w72 ⟨v290, rfl, ho0, hb⟩
                              refine ⟨_, rfl, ?_⟩
                              have n0_ := Aside0.mk (Kd.R_lower ho0 (below_size (by repeat (first | (with_reducible first | exact HB.out | apply below_alloc | apply pw_below_drewN | apply below_drew1 | refine below_set ?_ GE286.out) | exact HB.out))))
                              have n1_ := Aside0.mk (blk_below (g := gb286) (o := .cells #[.int .u8 a0_0, .int .u8 a0_1, .int .u8 a0_2, .int .u8 a0_3, .int .i32 a0_4] 23 (0, 0)) (by (with_reducible repeat (first | refine blk_drewN ?_ _ | refine blk_drew ?_ | refine blk_alloc ?_ _)); exact BK286.out) hb)
                              have n2_ := Aside0.mk (below_step (by repeat (first | (with_reducible first | exact HB.out | apply below_alloc | apply pw_below_drewN | apply below_drew1 | refine below_set ?_ GE286.out) | exact HB.out)) hb)
                              clear BK286
                              clear HB
                              have HO291 := n0_
                              have BK286 := n1_
                              have HB := n2_
                              clear n0_ n1_ n2_
                              (try clear hb)
                              (try clear hb2)
                              (try clear hk)
                              (try clear hi)
                              (try clear ho0)
                              obtain ⟨Ao73, co73, eo73⟩ := Kd.R_slice HO291.out
                              (first | subst eo73 | (injection eo73 with f1_ f2_ f3_; have f4_ := f1_.symm; have f5_ := f3_.symm; clear f1_ f2_ f3_; subst f4_; subst f5_))
                              have p292 : 0 ≤ ((ji5) : Int) := of_decide_eq_true (by first | (with_reducible assumption) | assumption)
                              have q292 : (ji5) < (t289.length : Int) := of_decide_eq_true (by first | (with_reducible assumption) | assumption)
                              obtain ⟨ad292, e292, hx292_0⟩ := Kd.at_string (Kd.R_reads' HO291.out).2.2 (ji5) p292 q292
                              cases e292
                              replace p292 := eq_true p292
                              replace q292 := eq_true q292
                              refine hK.out _ _ ⟨(blk_cell BK286.out 0).trans rfl, (blk_cell BK286.out 1).trans rfl, (blk_cell BK286.out 2).trans rfl, (blk_cell BK286.out 3).trans rfl, (blk_cell BK286.out 4).trans rfl⟩ (fun hHeld => ?_)
                              clear hK K
                              refine norm_ (a' := ?_) ?_ ?_
                              rotate_left
                              · show Act.put _ (some 13) _ = _
                                simp only [Act.put, List.setIfInBounds_toArray, List.set_cons_zero, List.set_cons_succ, i64_w, i32_w]
                                rfl
                              refine pure_ (i := 4) (N := some 17) (v := ?_) (a' := ?_) #[true, true, true, true, true, false, false, false] rfl rfl (any_of HT_.out (by kernel_rfl)) (fun _ _ _ h => h) (Or.inl ⟨by rfl, ?_⟩) ?_ ?_
                              rotate_left
                              · intro w'
                                go_simp
                                with_reducible rfl
                              rotate_left
                              · simp only [Act.put, List.setIfInBounds_toArray, List.set_cons_zero, List.set_cons_succ, i64_w, i32_w]
                                rfl
                              refine one_ (i := 5) (N := some 18) #[true, true, true, true, true, true, false, false] rfl rfl (one_of HT_.out (by kernel_rfl)) (by decide) (fun K hK => ?_)
                              go_wp2
                              refine hK.out _ _ ⟨(blk_cell BK286.out 0).trans rfl, (blk_cell BK286.out 1).trans rfl, (blk_cell BK286.out 2).trans rfl, (blk_cell BK286.out 3).trans rfl, (blk_cell BK286.out 4).trans rfl⟩ (fun hHeld => ?_)
                              clear hK K
                              refine pure_ (i := 6) (N := some 19) (v := ?_) (a' := ?_) #[true, true, true, true, true, true, true, false] rfl rfl (any_of HT_.out (by kernel_rfl)) (fun _ _ _ h => h) (Or.inl ⟨by rfl, ?_⟩) ?_ ?_
                              rotate_left
                              · intro w'
                                go_simp
                                with_reducible rfl
                              rotate_left
                              · simp only [Act.put, List.setIfInBounds_toArray, List.set_cons_zero, List.set_cons_succ, i64_w, i32_w]
                                rfl
                              refine pure_ (i := 7) (N := some 5) (v := ?_) (a' := ?_) #[true, true, true, true, true, true, true, true] rfl rfl (any_of HT_.out (by kernel_rfl)) (fun _ _ _ h => h) (Or.inl ⟨by rfl, ?_⟩) ?_ ?_
                              rotate_left
                              · intro w'
                                go_simp
                                with_reducible rfl
                              rotate_left
                              · simp only [Act.put, List.setIfInBounds_toArray, List.set_cons_zero, List.set_cons_succ, i64_w, i32_w]
                                rfl
                              refine done_ (done_of HT_.out (by kernel_rfl)) ?_
                              have hcz74_0 : w72.cell? ⟨gb286, 0, none⟩ = some (.int .u8 a0_0) := (blk_cell BK286.out 0).trans rfl
                              have hcz74_1 : w72.cell? ⟨gb286, 1, none⟩ = some (.int .u8 a0_1) := (blk_cell BK286.out 1).trans rfl
                              have hcz74_2 : w72.cell? ⟨gb286, 2, none⟩ = some (.int .u8 a0_2) := (blk_cell BK286.out 2).trans rfl
                              have hcz74_3 : w72.cell? ⟨gb286, 3, none⟩ = some (.int .u8 a0_3) := (blk_cell BK286.out 3).trans rfl
                              have hcz74_4 : w72.cell? ⟨gb286, 4, none⟩ = some (.int .i32 a0_4) := (blk_cell BK286.out 4).trans rfl
                              have hfz74_0 := blk_frozen BK286.out 0
                              have hfz74_1 := blk_frozen BK286.out 1
                              have hfz74_2 := blk_frozen BK286.out 2
                              have hfz74_3 := blk_frozen BK286.out 3
                              have hfz74_4 := blk_frozen BK286.out 4
                              try go_wp2_with (first | ((with_reducible refine gate_callee (f := 22) rfl ?_); refine goesL_ (some 22) rfl rfl Tryd.func22 (by kernel_rfl) rfl #[.int .u8 a0_0] rfl (by (try simp only [List.map_toArray, List.map_cons, List.map_nil]); first | done | rfl | (simp only [List.length_drop, List.length_take]; rfl)) ?_; (with_reducible refine (hibernacleref10_Form.calls k a0_0 t293 _ A9.out).mono ?_); rintro e w' ⟨rfl, ⟨nd, rfl⟩⟩; refine ⟨_, rfl, ?_⟩))
                              (try (rw [drewN_self w72]; generalize hq_ : World.drewN w72 _ = w72; have n0_ : Aside0 (Kd.R Kd.string 9 w72 w.heap.size (fun _ => True) (.slice (some ad292) t289.length co73) t289) := ⟨by rw [← hq_]; exact (by (with_reducible repeat (first | apply Kd.R_alloc | apply Kd.R_drewN | apply Kd.R_drew)); exact HO291.out)⟩; have n1_ : Aside0 (w72.heap[gb286]? = some (.cells #[.int .u8 a0_0, .int .u8 a0_1, .int .u8 a0_2, .int .u8 a0_3, .int .i32 a0_4] 23 (0, 0))) := ⟨by rw [← hq_]; exact (by (with_reducible repeat (first | refine blk_drewN ?_ _ | refine blk_drew ?_ | refine blk_alloc ?_ _)); exact BK286.out)⟩; have n2_ : Aside0 (Below w.heap.size w w72) := ⟨by rw [← hq_]; exact (by repeat (first | (with_reducible first | exact HB.out | apply below_alloc | apply pw_below_drewN | apply below_drew1 | refine below_set ?_ GE286.out) | exact HB.out))⟩; clear HO291 BK286 HB hq_; have HO291 := n0_; have BK286 := n1_; have HB := n2_; clear n0_ n1_ n2_))
                              have n0_ := Aside0.mk (Kd.R_drew HO291.out)
                              have n1_ := Aside0.mk (blk_drew BK286.out)
                              have n2_ := Aside0.mk (below_drew1 HB.out)
                              clear HO291
                              clear BK286
                              clear HB
                              have HO291 := n0_
                              have BK286 := n1_
                              have HB := n2_
                              clear n0_ n1_ n2_
                              refine start_ (n := 17) (S := fun w' => w'.cell? ⟨gb286, 0, none⟩ = some (.int .u8 a0_0) ∧ w'.cell? ⟨gb286, 1, none⟩ = some (.int .u8 a0_1) ∧ w'.cell? ⟨gb286, 2, none⟩ = some (.int .u8 a0_2) ∧ w'.cell? ⟨gb286, 3, none⟩ = some (.int .u8 a0_3) ∧ w'.cell? ⟨gb286, 4, none⟩ = some (.int .i32 a0_4)) (ds := []) zb18_Px10 (by kernel_rfl) rfl rfl ⟨(blk_cell BK286.out 0).trans rfl, (blk_cell BK286.out 1).trans rfl, (blk_cell BK286.out 2).trans rfl, (blk_cell BK286.out 3).trans rfl, (blk_cell BK286.out 4).trans rfl⟩ (fun hHeld => ?_); refine with_tabW hibernacleref10_Text.tab13 hibernacleref10_Text.bits13 (fun HT_ HW_ => ?_)
                              generalize w72.drew = w75 at HO291 BK286 HB hHeld ⊢
                              refine pure_ (i := 0) (N := some 71) (v := ?_) (a' := ?_) zb19_Px10 rfl rfl (any_of HT_.out (by kernel_rfl)) (fun _ _ _ h => h) (Or.inl ⟨by rfl, ?_⟩) ?_ ?_
                              rotate_left
                              · intro w'
                                go_simp
                                with_reducible rfl
                              rotate_left
                              · simp only [Act.put, List.setIfInBounds_toArray, List.set_cons_zero, List.set_cons_succ, i64_w, i32_w]
                                rfl
                              refine pure_ (i := 1) (N := some 72) (v := ?_) (a' := ?_) zb20_Px10 rfl rfl (any_of HT_.out (by kernel_rfl)) (fun _ _ _ h => h) (Or.inl ⟨by rfl, ?_⟩) ?_ ?_
                              rotate_left
                              · intro w'
                                go_simp
                                with_reducible rfl
                              rotate_left
                              · simp only [Act.put, List.setIfInBounds_toArray, List.set_cons_zero, List.set_cons_succ, i64_w, i32_w]
                                rfl
                              refine pure_ (i := 6) (N := some 77) (v := ?_) (a' := ?_) zb21_Px10 rfl rfl (any_of HT_.out (by kernel_rfl)) (fun _ _ _ h => h) (Or.inl ⟨by rfl, ?_⟩) ?_ ?_
                              rotate_left
                              · intro w'
                                go_simp
                                with_reducible rfl
                              rotate_left
                              · simp only [Act.put, List.setIfInBounds_toArray, List.set_cons_zero, List.set_cons_succ, i64_w, i32_w]
                                rfl
                              refine pure_ (i := 11) (N := some 82) (v := ?_) (a' := ?_) zb22_Px10 rfl rfl (any_of HT_.out (by kernel_rfl)) (fun _ _ _ h => h) (Or.inl ⟨by rfl, ?_⟩) ?_ ?_
                              rotate_left
                              · intro w'
                                go_simp
                                with_reducible rfl
                              rotate_left
                              · simp only [Act.put, List.setIfInBounds_toArray, List.set_cons_zero, List.set_cons_succ, i64_w, i32_w]
                                rfl
                              refine take_ (i := 2) (N := some 73) (v := ?_) (a' := ?_) zb23_Px10 rfl rfl (take_ofW HT_.out HW_.out (by kernel_rfl)) (fun _ _ _ h => h) (Or.inl ⟨by rfl, ?_⟩) hHeld ?_ ?_
                              rotate_left
                              · rintro w' ⟨s0, s1, s2, s3, s4⟩
                                go_simp
                                with_reducible rfl
                              rotate_left
                              · simp only [Act.put, List.setIfInBounds_toArray, List.set_cons_zero, List.set_cons_succ, i64_w, i32_w]
                                rfl
                              refine take_ (i := 7) (N := some 78) (v := ?_) (a' := ?_) zb24_Px10 rfl rfl (take_ofW HT_.out HW_.out (by kernel_rfl)) (fun _ _ _ h => h) (Or.inl ⟨by rfl, ?_⟩) hHeld ?_ ?_
                              rotate_left
                              · rintro w' ⟨s0, s1, s2, s3, s4⟩
                                go_simp
                                with_reducible rfl
                              rotate_left
                              · simp only [Act.put, List.setIfInBounds_toArray, List.set_cons_zero, List.set_cons_succ, i64_w, i32_w]
                                rfl
                              refine take_ (i := 12) (N := some 83) (v := ?_) (a' := ?_) zb25_Px10 rfl rfl (take_ofW HT_.out HW_.out (by kernel_rfl)) (fun _ _ _ h => h) (Or.inl ⟨by rfl, ?_⟩) hHeld ?_ ?_
                              rotate_left
                              · rintro w' ⟨s0, s1, s2, s3, s4⟩
                                go_simp
                                with_reducible rfl
                              rotate_left
                              · simp only [Act.put, List.setIfInBounds_toArray, List.set_cons_zero, List.set_cons_succ, i64_w, i32_w]
                                rfl
                              refine one_ (i := 3) (N := some 74) zb26_Px10 rfl rfl (one_of HT_.out (by kernel_rfl)) (by decide) (fun K hK => ?_)
                              refine goes_ Tryd.func30 (by kernel_rfl) rfl #[.int .u8 a0_1] (by rfl) rfl rfl (by (try simp only [List.map_toArray, List.map_cons, List.map_nil]); first | done | rfl | (simp only [List.length_drop, List.length_take]; rfl)) ?_
                              with_reducible refine (hibernacleref10_reg.calls k a0_1 t302 _ A59.out).mono ?_
                              rintro e w' ⟨rfl, ⟨nd, rfl⟩⟩
                              refine ⟨_, rfl, ?_⟩
                              refine hK.out _ _ ⟨(blk_cell BK286.out 0).trans rfl, (blk_cell BK286.out 1).trans rfl, (blk_cell BK286.out 2).trans rfl, (blk_cell BK286.out 3).trans rfl, (blk_cell BK286.out 4).trans rfl⟩ (fun hHeld => ?_)
                              clear hK K
                              refine norm_ (a' := ?_) ?_ ?_
                              rotate_left
                              · show Act.put _ (some 74) _ = _
                                simp only [Act.put, List.setIfInBounds_toArray, List.set_cons_zero, List.set_cons_succ, i64_w, i32_w]
                                rfl
                              refine pure_ (i := 4) (N := some 75) (v := ?_) (a' := ?_) zb27_Px10 rfl rfl (any_of HT_.out (by kernel_rfl)) (fun _ _ _ h => h) (Or.inl ⟨by rfl, ?_⟩) ?_ ?_
                              rotate_left
                              · intro w'
                                go_simp
                                with_reducible rfl
                              rotate_left
                              · simp only [Act.put, List.setIfInBounds_toArray, List.set_cons_zero, List.set_cons_succ, i64_w, i32_w]
                                rfl
                              refine pure_ (i := 5) (N := some 76) (v := ?_) (a' := ?_) zb28_Px10 rfl rfl (any_of HT_.out (by kernel_rfl)) (fun _ _ _ h => h) (Or.inl ⟨by rfl, ?_⟩) ?_ ?_
                              rotate_left
                              · intro w'
                                go_simp
                                with_reducible rfl
                              rotate_left
                              · simp only [Act.put, List.setIfInBounds_toArray, List.set_cons_zero, List.set_cons_succ, i64_w, i32_w]
                                rfl
                              refine one_ (i := 8) (N := some 79) zb29_Px10 rfl rfl (one_of HT_.out (by kernel_rfl)) (by decide) (fun K hK => ?_)
                              refine goes_ Tryd.func31 (by kernel_rfl) rfl #[.int .i32 a0_4] (by rfl) rfl rfl (by (try simp only [List.map_toArray, List.map_cons, List.map_nil]); first | done | rfl | (simp only [List.length_drop, List.length_take]; rfl)) ?_
                              with_reducible refine (hibernacleref10_dec.calls k a0_4 t303 _ A62.out).mono ?_
                              rintro e w' ⟨rfl, ⟨nd, rfl⟩⟩
                              refine ⟨_, rfl, ?_⟩
                              refine hK.out _ _ ⟨(blk_cell BK286.out 0).trans rfl, (blk_cell BK286.out 1).trans rfl, (blk_cell BK286.out 2).trans rfl, (blk_cell BK286.out 3).trans rfl, (blk_cell BK286.out 4).trans rfl⟩ (fun hHeld => ?_)
                              clear hK K
                              refine norm_ (a' := ?_) ?_ ?_
                              rotate_left
                              · show Act.put _ (some 79) _ = _
                                simp only [Act.put, List.setIfInBounds_toArray, List.set_cons_zero, List.set_cons_succ, i64_w, i32_w]
                                rfl
                              refine pure_ (i := 9) (N := some 80) (v := ?_) (a' := ?_) zb30_Px10 rfl rfl (any_of HT_.out (by kernel_rfl)) (fun _ _ _ h => h) (Or.inl ⟨by rfl, ?_⟩) ?_ ?_
                              rotate_left
                              · intro w'
                                go_simp
                                with_reducible rfl
                              rotate_left
                              · simp only [Act.put, List.setIfInBounds_toArray, List.set_cons_zero, List.set_cons_succ, i64_w, i32_w]
                                rfl
                              refine pure_ (i := 10) (N := some 81) (v := ?_) (a' := ?_) zb31_Px10 rfl rfl (any_of HT_.out (by kernel_rfl)) (fun _ _ _ h => h) (Or.inl ⟨by rfl, ?_⟩) ?_ ?_
                              rotate_left
                              · intro w'
                                go_simp
                                with_reducible rfl
                              rotate_left
                              · simp only [Act.put, List.setIfInBounds_toArray, List.set_cons_zero, List.set_cons_succ, i64_w, i32_w]
                                rfl
                              refine one_ (i := 13) (N := some 84) zb32_Px10 rfl rfl (one_of HT_.out (by kernel_rfl)) (by decide) (fun K hK => ?_)
                              refine goes_ Tryd.func30 (by kernel_rfl) rfl #[.int .u8 a0_2] (by rfl) rfl rfl (by (try simp only [List.map_toArray, List.map_cons, List.map_nil]); first | done | rfl | (simp only [List.length_drop, List.length_take]; rfl)) ?_
                              with_reducible refine (hibernacleref10_reg.calls k a0_2 t304 _ A65.out).mono ?_
                              rintro e w' ⟨rfl, ⟨nd, rfl⟩⟩
                              refine ⟨_, rfl, ?_⟩
                              refine hK.out _ _ ⟨(blk_cell BK286.out 0).trans rfl, (blk_cell BK286.out 1).trans rfl, (blk_cell BK286.out 2).trans rfl, (blk_cell BK286.out 3).trans rfl, (blk_cell BK286.out 4).trans rfl⟩ (fun hHeld => ?_)
                              clear hK K
                              refine norm_ (a' := ?_) ?_ ?_
                              rotate_left
                              · show Act.put _ (some 84) _ = _
                                simp only [Act.put, List.setIfInBounds_toArray, List.set_cons_zero, List.set_cons_succ, i64_w, i32_w]
                                rfl
                              refine pure_ (i := 14) (N := some 85) (v := ?_) (a' := ?_) zb33_Px10 rfl rfl (any_of HT_.out (by kernel_rfl)) (fun _ _ _ h => h) (Or.inl ⟨by rfl, ?_⟩) ?_ ?_
                              rotate_left
                              · intro w'
                                go_simp
                                with_reducible rfl
                              rotate_left
                              · simp only [Act.put, List.setIfInBounds_toArray, List.set_cons_zero, List.set_cons_succ, i64_w, i32_w]
                                rfl
                              refine pure_ (i := 15) (N := some 86) (v := ?_) (a' := ?_) zb34_Px10 rfl rfl (any_of HT_.out (by kernel_rfl)) (fun _ _ _ h => h) (Or.inl ⟨by rfl, ?_⟩) ?_ ?_
                              rotate_left
                              · intro w'
                                go_simp
                                with_reducible rfl
                              rotate_left
                              · simp only [Act.put, List.setIfInBounds_toArray, List.set_cons_zero, List.set_cons_succ, i64_w, i32_w]
                                rfl
                              refine pure_ (i := 16) (N := some 2) (v := ?_) (a' := ?_) zb35_Px10 rfl rfl (any_of HT_.out (by kernel_rfl)) (fun _ _ _ h => h) (Or.inl ⟨by rfl, ?_⟩) ?_ ?_
                              rotate_left
                              · intro w'
                                go_simp
                                with_reducible rfl
                              rotate_left
                              · simp only [Act.put, List.setIfInBounds_toArray, List.set_cons_zero, List.set_cons_succ, i64_w, i32_w]
                                rfl
                              refine done_ (done_of HT_.out (by kernel_rfl)) ?_
                              try go_wp2
                              go_ret
                              exact ⟨by first | rfl | (simp [errW_none, errW_some] <;> rfl) | (simp only [← hji5]; first | rfl | (simp [errW_none, errW_some] <;> rfl)) | (simp [*, errW_none, errW_some] <;> rfl), by repeat (first | (with_reducible first | exact HB.out | apply below_alloc | apply pw_below_drewN | apply below_drew1 | refine below_set ?_ GE286.out) | exact HB.out)⟩
                            · rw [if_neg c67] at H
                              exact absurd H (by simp)
                          · rw [if_neg c66] at H
                            exact absurd H (by simp)
                        · rw [if_neg c64] at H
                          exact absurd H (by simp)
                      · rw [if_neg c63] at H
                        exact absurd H (by simp)
                    · rw [if_neg c61] at H
                      exact absurd H (by simp)
                  · rw [if_neg c60] at H
                    exact absurd H (by simp)
                · rw [if_neg c58] at H
                  have c58b0 : (t293 == 4) = false := beq_eq_false_iff_ne.mpr c58
                  have c58b1 : (t293 != 4) = true := bne_iff_ne.mpr c58
                  replace H := Option.bind_eq_some_iff.mp H
                  obtain ⟨t305, A760, H⟩ := H
                  replace H : (if ((rdOf ByteArray.empty t289 (ji5)) ++ (⟨#[32]⟩ : ByteArray)).size + t305.size ≤ 9223372036854775807 then (some (((rdOf ByteArray.empty t289 (ji5)) ++ (⟨#[32]⟩ : ByteArray)) ++ t305)) else (none)) = some r := H
                  have A76 := Aside0.mk A760
                  clear A760
                  by_cases c77 : ((rdOf ByteArray.empty t289 (ji5)) ++ (⟨#[32]⟩ : ByteArray)).size + t305.size ≤ 9223372036854775807
                  · rw [if_pos c77] at H
                    have c77b0 := eq_true c77
                    have c77b1 : decide (((rdOf ByteArray.empty t289 (ji5)) ++ (⟨#[32]⟩ : ByteArray)).size + t305.size ≤ 9223372036854775807) = true := decide_eq_true c77
                    try have c77b2 : (9223372036854775807 < ((rdOf ByteArray.empty t289 (ji5)) ++ (⟨#[32]⟩ : ByteArray)).size + t305.size) = False := eq_false (Nat.not_lt.2 c77)
                    try (have c77b5 := c77b0; have c77b6 := c77b2; simp only [ByteArray.size_append, ByteArray.size_extract, Int.toNat_natCast, Nat.min_self, size_lit_, List.size_toArray, List.length_cons, List.length_nil, Nat.reduceAdd] at c77b5 c77b6)
                    obtain rfl := Option.some.inj H
                    go_enter Tryd.func16, Tryd.ntmps16
                    try go_wp2_with (first | ((with_reducible refine gate_dst (N := 1) rfl ?_); refine box_event ?hg (N := 1) ?hd (cs := #[.int .u8 a0_0, .int .u8 a0_1, .int .u8 a0_2, .int .u8 a0_3, .int .i32 a0_4]) (t := 23) ?hr ?_; (case hd => rfl); (case hg => rfl); (case hr => first | (go_simp; done) | (go_simp; rfl)); intro gb286 hg w78 hbox hb; have n0_ := Aside0.mk (below_step (by repeat (first | (with_reducible first | exact HB.out | apply below_alloc | apply pw_below_drewN | apply below_drew1) | exact HB.out)) hb); have n1_ := Aside0.mk (hbox); have n2_ := Aside0.mk ((by rw [hg]; exact (below_size (by repeat (first | (with_reducible first | exact HB.out | apply below_alloc | apply pw_below_drewN | apply below_drew1) | exact HB.out))) : w.heap.size ≤ gb286)); have n3_ := Aside0.mk ((by rw [hg]; exact (below_size (by repeat (first | (with_reducible first | exact HB.out | apply below_alloc | apply pw_below_drewN | apply below_drew1) | exact HB.out))) : w.heap.size ≤ gb286)); clear HB; have HB := n0_; have BK286 := n1_; have GW286 := n2_; have GE286 := n3_; clear n0_ n1_ n2_ n3_; clear hb hbox hg; have hcz79_0 : w78.cell? ⟨gb286, 0, none⟩ = some (.int .u8 a0_0) := (blk_cell BK286.out 0).trans rfl; have hcz79_1 : w78.cell? ⟨gb286, 1, none⟩ = some (.int .u8 a0_1) := (blk_cell BK286.out 1).trans rfl; have hcz79_2 : w78.cell? ⟨gb286, 2, none⟩ = some (.int .u8 a0_2) := (blk_cell BK286.out 2).trans rfl; have hcz79_3 : w78.cell? ⟨gb286, 3, none⟩ = some (.int .u8 a0_3) := (blk_cell BK286.out 3).trans rfl; have hcz79_4 : w78.cell? ⟨gb286, 4, none⟩ = some (.int .i32 a0_4) := (blk_cell BK286.out 4).trans rfl; have hfz79_0 := blk_frozen BK286.out 0; have hfz79_1 := blk_frozen BK286.out 1; have hfz79_2 := blk_frozen BK286.out 2; have hfz79_3 := blk_frozen BK286.out 3; have hfz79_4 := blk_frozen BK286.out 4) | ((with_reducible refine gate_callee (f := 12) rfl ?_); refine goesL_ (some 8) rfl rfl Tryd.func12 (by kernel_rfl) rfl #[.agg #[.int .u8 a0_0, .int .u8 a0_1, .int .u8 a0_2, .int .u8 a0_3, .int .i32 a0_4]] rfl (by (try simp only [List.map_toArray, List.map_cons, List.map_nil]); first | done | rfl | (simp only [List.length_drop, List.length_take]; rfl)) ?_; (with_reducible refine (hibernacleref10_Enc.calls k a0_0 a0_1 a0_2 a0_3 a0_4 t287 t288 _ A2.out).mono ?_); rintro e w80 ⟨rfl, hb⟩; refine ⟨_, rfl, ?_⟩; have n0_ := Aside0.mk (blk_below (g := gb286) (o := .cells #[.int .u8 a0_0, .int .u8 a0_1, .int .u8 a0_2, .int .u8 a0_3, .int .i32 a0_4] 23 (0, 0)) (by (with_reducible repeat (first | refine blk_drewN ?_ _ | refine blk_drew ?_ | refine blk_alloc ?_ _)); exact BK286.out) hb); have n1_ := Aside0.mk (below_step (by repeat (first | (with_reducible first | exact HB.out | apply below_alloc | apply pw_below_drewN | apply below_drew1 | refine below_set ?_ GE286.out) | exact HB.out)) hb); clear BK286; clear HB; have BK286 := n0_; have HB := n1_; clear n0_ n1_; (try clear hb); (try clear hb2); (try clear hk); (try clear hi)))
                    have n0_ := Aside0.mk (blk_drew BK286.out)
                    have n1_ := Aside0.mk (below_drew1 HB.out)
                    clear BK286
                    clear HB
                    have BK286 := n0_
                    have HB := n1_
                    clear n0_ n1_
                    refine start_ (n := 8) (S := fun w' => w'.cell? ⟨gb286, 0, none⟩ = some (.int .u8 a0_0) ∧ w'.cell? ⟨gb286, 1, none⟩ = some (.int .u8 a0_1) ∧ w'.cell? ⟨gb286, 2, none⟩ = some (.int .u8 a0_2) ∧ w'.cell? ⟨gb286, 3, none⟩ = some (.int .u8 a0_3) ∧ w'.cell? ⟨gb286, 4, none⟩ = some (.int .i32 a0_4)) (ds := []) #[false, false, false, false, false, false, false, false] (by kernel_rfl) rfl rfl ⟨(blk_cell BK286.out 0).trans rfl, (blk_cell BK286.out 1).trans rfl, (blk_cell BK286.out 2).trans rfl, (blk_cell BK286.out 3).trans rfl, (blk_cell BK286.out 4).trans rfl⟩ (fun hHeld => ?_); refine with_tabW hibernacleref10_Text.tab4 hibernacleref10_Text.bits4 (fun HT_ HW_ => ?_)
                    generalize w80.drew = w81 at BK286 HB hHeld ⊢
                    refine pure_ (i := 1) (N := some 14) (v := ?_) (a' := ?_) #[false, true, false, false, false, false, false, false] rfl rfl (any_of HT_.out (by kernel_rfl)) (fun _ _ _ h => h) (Or.inl ⟨by rfl, ?_⟩) ?_ ?_
                    rotate_left
                    · intro w'
                      go_simp
                      with_reducible rfl
                    rotate_left
                    · simp only [Act.put, List.setIfInBounds_toArray, List.set_cons_zero, List.set_cons_succ, i64_w, i32_w]
                      rfl
                    refine take_ (i := 2) (N := some 15) (v := ?_) (a' := ?_) #[false, true, true, false, false, false, false, false] rfl rfl (take_ofW HT_.out HW_.out (by kernel_rfl)) (fun _ _ _ h => h) (Or.inl ⟨by rfl, ?_⟩) hHeld ?_ ?_
                    rotate_left
                    · rintro w' ⟨s0, s1, s2, s3, s4⟩
                      go_simp
                      with_reducible rfl
                    rotate_left
                    · simp only [Act.put, List.setIfInBounds_toArray, List.set_cons_zero, List.set_cons_succ, i64_w, i32_w]
                      rfl
                    refine pure_ (i := 3) (N := some 16) (v := ?_) (a' := ?_) #[false, true, true, true, false, false, false, false] rfl rfl (any_of HT_.out (by kernel_rfl)) (fun _ _ _ h => h) (Or.inl ⟨by rfl, ?_⟩) ?_ ?_
                    rotate_left
                    · intro w'
                      go_simp
                      with_reducible rfl
                    rotate_left
                    · simp only [Act.put, List.setIfInBounds_toArray, List.set_cons_zero, List.set_cons_succ, i64_w, i32_w]
                      rfl
                    refine one_ (i := 0) (N := some 13) #[true, true, true, true, false, false, false, false] rfl rfl (one_of HT_.out (by kernel_rfl)) (by decide) (fun K hK => ?_)
                    refine goes_ Tryd.func29 (by kernel_rfl) rfl #[] (by rfl) rfl rfl (by (try simp only [List.map_toArray, List.map_cons, List.map_nil]); first | done | rfl | (simp only [List.length_drop, List.length_take]; rfl)) ?_
                    with_reducible refine (hibernacleref10_names.calls  t289 _ A4.out).mono ?_
                    rintro e w82 ⟨v290, rfl, ho0, hb⟩
                    refine ⟨_, rfl, ?_⟩
                    have n0_ := Aside0.mk (Kd.R_lower ho0 (below_size (by repeat (first | (with_reducible first | exact HB.out | apply below_alloc | apply pw_below_drewN | apply below_drew1 | refine below_set ?_ GE286.out) | exact HB.out))))
                    have n1_ := Aside0.mk (blk_below (g := gb286) (o := .cells #[.int .u8 a0_0, .int .u8 a0_1, .int .u8 a0_2, .int .u8 a0_3, .int .i32 a0_4] 23 (0, 0)) (by (with_reducible repeat (first | refine blk_drewN ?_ _ | refine blk_drew ?_ | refine blk_alloc ?_ _)); exact BK286.out) hb)
                    have n2_ := Aside0.mk (below_step (by repeat (first | (with_reducible first | exact HB.out | apply below_alloc | apply pw_below_drewN | apply below_drew1 | refine below_set ?_ GE286.out) | exact HB.out)) hb)
                    clear BK286
                    clear HB
                    have HO291 := n0_
                    have BK286 := n1_
                    have HB := n2_
                    clear n0_ n1_ n2_
                    (try clear hb)
                    (try clear hb2)
                    (try clear hk)
                    (try clear hi)
                    (try clear ho0)
                    obtain ⟨Ao83, co83, eo83⟩ := Kd.R_slice HO291.out
                    (first | subst eo83 | (injection eo83 with f1_ f2_ f3_; have f4_ := f1_.symm; have f5_ := f3_.symm; clear f1_ f2_ f3_; subst f4_; subst f5_))
                    have p292 : 0 ≤ ((ji5) : Int) := of_decide_eq_true (by first | (with_reducible assumption) | assumption)
                    have q292 : (ji5) < (t289.length : Int) := of_decide_eq_true (by first | (with_reducible assumption) | assumption)
                    obtain ⟨ad292, e292, hx292_0⟩ := Kd.at_string (Kd.R_reads' HO291.out).2.2 (ji5) p292 q292
                    cases e292
                    replace p292 := eq_true p292
                    replace q292 := eq_true q292
                    refine hK.out _ _ ⟨(blk_cell BK286.out 0).trans rfl, (blk_cell BK286.out 1).trans rfl, (blk_cell BK286.out 2).trans rfl, (blk_cell BK286.out 3).trans rfl, (blk_cell BK286.out 4).trans rfl⟩ (fun hHeld => ?_)
                    clear hK K
                    refine norm_ (a' := ?_) ?_ ?_
                    rotate_left
                    · show Act.put _ (some 13) _ = _
                      simp only [Act.put, List.setIfInBounds_toArray, List.set_cons_zero, List.set_cons_succ, i64_w, i32_w]
                      rfl
                    refine pure_ (i := 4) (N := some 17) (v := ?_) (a' := ?_) #[true, true, true, true, true, false, false, false] rfl rfl (any_of HT_.out (by kernel_rfl)) (fun _ _ _ h => h) (Or.inl ⟨by rfl, ?_⟩) ?_ ?_
                    rotate_left
                    · intro w'
                      go_simp
                      with_reducible rfl
                    rotate_left
                    · simp only [Act.put, List.setIfInBounds_toArray, List.set_cons_zero, List.set_cons_succ, i64_w, i32_w]
                      rfl
                    refine one_ (i := 5) (N := some 18) #[true, true, true, true, true, true, false, false] rfl rfl (one_of HT_.out (by kernel_rfl)) (by decide) (fun K hK => ?_)
                    go_wp2
                    refine hK.out _ _ ⟨(blk_cell BK286.out 0).trans rfl, (blk_cell BK286.out 1).trans rfl, (blk_cell BK286.out 2).trans rfl, (blk_cell BK286.out 3).trans rfl, (blk_cell BK286.out 4).trans rfl⟩ (fun hHeld => ?_)
                    clear hK K
                    refine pure_ (i := 6) (N := some 19) (v := ?_) (a' := ?_) #[true, true, true, true, true, true, true, false] rfl rfl (any_of HT_.out (by kernel_rfl)) (fun _ _ _ h => h) (Or.inl ⟨by rfl, ?_⟩) ?_ ?_
                    rotate_left
                    · intro w'
                      go_simp
                      with_reducible rfl
                    rotate_left
                    · simp only [Act.put, List.setIfInBounds_toArray, List.set_cons_zero, List.set_cons_succ, i64_w, i32_w]
                      rfl
                    refine pure_ (i := 7) (N := some 5) (v := ?_) (a' := ?_) #[true, true, true, true, true, true, true, true] rfl rfl (any_of HT_.out (by kernel_rfl)) (fun _ _ _ h => h) (Or.inl ⟨by rfl, ?_⟩) ?_ ?_
                    rotate_left
                    · intro w'
                      go_simp
                      with_reducible rfl
                    rotate_left
                    · simp only [Act.put, List.setIfInBounds_toArray, List.set_cons_zero, List.set_cons_succ, i64_w, i32_w]
                      rfl
                    refine done_ (done_of HT_.out (by kernel_rfl)) ?_
                    have hcz84_0 : w82.cell? ⟨gb286, 0, none⟩ = some (.int .u8 a0_0) := (blk_cell BK286.out 0).trans rfl
                    have hcz84_1 : w82.cell? ⟨gb286, 1, none⟩ = some (.int .u8 a0_1) := (blk_cell BK286.out 1).trans rfl
                    have hcz84_2 : w82.cell? ⟨gb286, 2, none⟩ = some (.int .u8 a0_2) := (blk_cell BK286.out 2).trans rfl
                    have hcz84_3 : w82.cell? ⟨gb286, 3, none⟩ = some (.int .u8 a0_3) := (blk_cell BK286.out 3).trans rfl
                    have hcz84_4 : w82.cell? ⟨gb286, 4, none⟩ = some (.int .i32 a0_4) := (blk_cell BK286.out 4).trans rfl
                    have hfz84_0 := blk_frozen BK286.out 0
                    have hfz84_1 := blk_frozen BK286.out 1
                    have hfz84_2 := blk_frozen BK286.out 2
                    have hfz84_3 := blk_frozen BK286.out 3
                    have hfz84_4 := blk_frozen BK286.out 4
                    try go_wp2_with (first | ((with_reducible refine gate_callee (f := 22) rfl ?_); refine goesL_ (some 22) rfl rfl Tryd.func22 (by kernel_rfl) rfl #[.int .u8 a0_0] rfl (by (try simp only [List.map_toArray, List.map_cons, List.map_nil]); first | done | rfl | (simp only [List.length_drop, List.length_take]; rfl)) ?_; (with_reducible refine (hibernacleref10_Form.calls k a0_0 t293 _ A9.out).mono ?_); rintro e w' ⟨rfl, ⟨nd, rfl⟩⟩; refine ⟨_, rfl, ?_⟩) | ((with_reducible refine gate_callee (f := 31) rfl ?_); refine goesL_ (some 90) rfl rfl Tryd.func31 (by kernel_rfl) rfl #[.int .i32 a0_4] rfl (by (try simp only [List.map_toArray, List.map_cons, List.map_nil]); first | done | rfl | (simp only [List.length_drop, List.length_take]; rfl)) ?_; (with_reducible refine (hibernacleref10_dec.calls k a0_4 t305 _ A76.out).mono ?_); rintro e w' ⟨rfl, ⟨nd, rfl⟩⟩; refine ⟨_, rfl, ?_⟩))
                    go_ret
                    exact ⟨by first | rfl | (simp [errW_none, errW_some] <;> rfl) | (simp only [← hji5]; first | rfl | (simp [errW_none, errW_some] <;> rfl)) | (simp [*, errW_none, errW_some] <;> rfl), by repeat (first | (with_reducible first | exact HB.out | apply below_alloc | apply pw_below_drewN | apply below_drew1 | refine below_set ?_ GE286.out) | exact HB.out)⟩
                  · rw [if_neg c77] at H
                    exact absurd H (by simp)
        · rw [if_neg c8] at H
          exact absurd H (by simp)
      · rw [if_neg c7] at H
        exact absurd H (by simp)
    · rw [if_neg c6] at H
      exact absurd H (by simp)
  · rw [if_neg c3] at H
    have c3b0 : (t288 == 0) = false := beq_eq_false_iff_ne.mpr c3
    have c3b1 : (t288 != 0) = true := bne_iff_ne.mpr c3
    obtain rfl := Option.some.inj H
    go_enter Tryd.func16, Tryd.ntmps16
    go_wp2_with (first | ((with_reducible refine gate_dst (N := 1) rfl ?_); refine box_event ?hg (N := 1) ?hd (cs := #[.int .u8 a0_0, .int .u8 a0_1, .int .u8 a0_2, .int .u8 a0_3, .int .i32 a0_4]) (t := 23) ?hr ?_; (case hd => rfl); (case hg => rfl); (case hr => first | (go_simp; done) | (go_simp; rfl)); intro gb286 hg w85 hbox hb; have n0_ := Aside0.mk (below_step (by repeat (first | (with_reducible first | exact HB.out | apply below_alloc | apply pw_below_drewN | apply below_drew1) | exact HB.out)) hb); have n1_ := Aside0.mk (hbox); have n2_ := Aside0.mk ((by rw [hg]; exact (below_size (by repeat (first | (with_reducible first | exact HB.out | apply below_alloc | apply pw_below_drewN | apply below_drew1) | exact HB.out))) : w.heap.size ≤ gb286)); have n3_ := Aside0.mk ((by rw [hg]; exact (below_size (by repeat (first | (with_reducible first | exact HB.out | apply below_alloc | apply pw_below_drewN | apply below_drew1) | exact HB.out))) : w.heap.size ≤ gb286)); clear HB; have HB := n0_; have BK286 := n1_; have GW286 := n2_; have GE286 := n3_; clear n0_ n1_ n2_ n3_; clear hb hbox hg; have hcz86_0 : w85.cell? ⟨gb286, 0, none⟩ = some (.int .u8 a0_0) := (blk_cell BK286.out 0).trans rfl; have hcz86_1 : w85.cell? ⟨gb286, 1, none⟩ = some (.int .u8 a0_1) := (blk_cell BK286.out 1).trans rfl; have hcz86_2 : w85.cell? ⟨gb286, 2, none⟩ = some (.int .u8 a0_2) := (blk_cell BK286.out 2).trans rfl; have hcz86_3 : w85.cell? ⟨gb286, 3, none⟩ = some (.int .u8 a0_3) := (blk_cell BK286.out 3).trans rfl; have hcz86_4 : w85.cell? ⟨gb286, 4, none⟩ = some (.int .i32 a0_4) := (blk_cell BK286.out 4).trans rfl; have hfz86_0 := blk_frozen BK286.out 0; have hfz86_1 := blk_frozen BK286.out 1; have hfz86_2 := blk_frozen BK286.out 2; have hfz86_3 := blk_frozen BK286.out 3; have hfz86_4 := blk_frozen BK286.out 4) | ((with_reducible refine gate_callee (f := 12) rfl ?_); refine goesL_ (some 8) rfl rfl Tryd.func12 (by kernel_rfl) rfl #[.agg #[.int .u8 a0_0, .int .u8 a0_1, .int .u8 a0_2, .int .u8 a0_3, .int .i32 a0_4]] rfl (by (try simp only [List.map_toArray, List.map_cons, List.map_nil]); first | done | rfl | (simp only [List.length_drop, List.length_take]; rfl)) ?_; (with_reducible refine (hibernacleref10_Enc.calls k a0_0 a0_1 a0_2 a0_3 a0_4 t287 t288 _ A2.out).mono ?_); rintro e w87 ⟨rfl, hb⟩; refine ⟨_, rfl, ?_⟩; have n0_ := Aside0.mk (blk_below (g := gb286) (o := .cells #[.int .u8 a0_0, .int .u8 a0_1, .int .u8 a0_2, .int .u8 a0_3, .int .i32 a0_4] 23 (0, 0)) (by (with_reducible repeat (first | refine blk_drewN ?_ _ | refine blk_drew ?_ | refine blk_alloc ?_ _)); exact BK286.out) hb); have n1_ := Aside0.mk (below_step (by repeat (first | (with_reducible first | exact HB.out | apply below_alloc | apply pw_below_drewN | apply below_drew1 | refine below_set ?_ GE286.out) | exact HB.out)) hb); clear BK286; clear HB; have BK286 := n0_; have HB := n1_; clear n0_ n1_; (try clear hb); (try clear hb2); (try clear hk); (try clear hi)))
    go_ret
    exact ⟨by first | rfl | (simp [errW_none, errW_some] <;> rfl) | (simp [*, errW_none, errW_some] <;> rfl), by repeat (first | (with_reducible first | exact HB.out | apply below_alloc | apply pw_below_drewN | apply below_drew1 | refine below_set ?_ GE286.out) | exact HB.out)⟩
end
end Go.Proofs.YthdfkbkenklcaaaDoor.P
end
