-- Printed for this claim and put together by wip/tools/prune.py.
import Derived.Test.YthdfkbkenklcaaaDoorCFi1
import Derived.Test.YthdfkbkenklcaaaDoorCFi2
import Derived.Test.YthdfkbkenklcaaaDoorCFi3
set_option linter.unusedVariables false
set_option linter.unusedSimpArgs false
section
namespace Go.Proofs.YthdfkbkenklcaaaDoor.P
section
abbrev zb1_Px5 : Array Bool := #[false, false, false, false, false, false, false, false, false, false, false, false, false, false, false, false]
abbrev zb2_Px5 : Array Bool := #[true, false, false, false, false, false, false, false, false, false, false, false, false, false, false, false]
abbrev zb3_Px5 : Array Bool := #[true, true, false, false, false, false, false, false, false, false, false, false, false, false, false, false]
abbrev zb4_Px5 : Array Bool := #[true, true, true, false, false, false, false, false, false, false, false, false, false, false, false, false]
abbrev zb5_Px5 : Array Bool := #[true, true, true, false, false, true, false, false, false, false, false, false, false, false, false, false]
abbrev zb6_Px5 : Array Bool := #[true, true, true, false, false, true, true, false, false, false, false, false, false, false, false, false]
abbrev zb7_Px5 : Array Bool := #[true, true, true, false, false, true, true, false, false, true, false, false, false, false, false, false]
abbrev zb8_Px5 : Array Bool := #[true, true, true, false, false, true, true, false, false, true, true, false, false, false, false, false]
abbrev zb9_Px5 : Array Bool := #[true, true, true, true, false, true, true, false, false, true, true, false, false, false, false, false]
abbrev zb10_Px5 : Array Bool := #[true, true, true, true, false, true, true, true, false, true, true, false, false, false, false, false]
abbrev zb11_Px5 : Array Bool := #[true, true, true, true, false, true, true, true, false, true, true, true, false, false, false, false]
abbrev zb12_Px5 : Array Bool := #[true, true, true, true, true, true, true, true, false, true, true, true, false, false, false, false]
abbrev zb13_Px5 : Array Bool := #[true, true, true, true, true, true, true, true, true, true, true, true, false, false, false, false]
abbrev zb14_Px5 : Array Bool := #[true, true, true, true, true, true, true, true, true, true, true, true, true, false, false, false]
abbrev zb15_Px5 : Array Bool := #[true, true, true, true, true, true, true, true, true, true, true, true, true, true, false, false]
abbrev zb16_Px5 : Array Bool := #[true, true, true, true, true, true, true, true, true, true, true, true, true, true, true, false]
abbrev zb17_Px5 : Array Bool := #[true, true, true, true, true, true, true, true, true, true, true, true, true, true, true, true]
abbrev zb18_Px5 : Array Bool := #[false, false, false, false, false, false, false, false, false, false, false, false, false]
abbrev zb19_Px5 : Array Bool := #[true, false, false, false, false, false, false, false, false, false, false, false, false]
abbrev zb20_Px5 : Array Bool := #[true, true, false, false, false, false, false, false, false, false, false, false, false]
abbrev zb21_Px5 : Array Bool := #[true, true, true, false, false, false, false, false, false, false, false, false, false]
abbrev zb22_Px5 : Array Bool := #[true, true, true, false, false, true, false, false, false, false, false, false, false]
abbrev zb23_Px5 : Array Bool := #[true, true, true, false, false, true, true, false, false, false, false, false, false]
abbrev zb24_Px5 : Array Bool := #[true, true, true, false, false, true, true, false, false, true, false, false, false]
abbrev zb25_Px5 : Array Bool := #[true, true, true, true, false, true, true, false, false, true, false, false, false]
abbrev zb26_Px5 : Array Bool := #[true, true, true, true, false, true, true, true, false, true, false, false, false]
abbrev zb27_Px5 : Array Bool := #[true, true, true, true, true, true, true, true, false, true, false, false, false]
abbrev zb28_Px5 : Array Bool := #[true, true, true, true, true, true, true, true, true, true, false, false, false]
abbrev zb29_Px5 : Array Bool := #[true, true, true, true, true, true, true, true, true, true, true, false, false]
abbrev zb30_Px5 : Array Bool := #[true, true, true, true, true, true, true, true, true, true, true, true, false]
abbrev zb31_Px5 : Array Bool := #[true, true, true, true, true, true, true, true, true, true, true, true, true]
abbrev zb32_Px5 : Array Bool := #[true, true, true, false, false, true, true, true, false, false, false, false, false, false, false, false]
abbrev zb33_Px5 : Array Bool := #[true, true, true, false, false, true, true, true, true, false, false, false, false, false, false, false]
abbrev zb34_Px5 : Array Bool := #[true, true, true, true, false, true, true, true, true, false, false, false, false, false, false, false]
abbrev zb35_Px5 : Array Bool := #[true, true, true, true, false, true, true, true, true, true, false, false, false, false, false, false]
abbrev zb36_Px5 : Array Bool := #[true, true, true, true, true, true, true, true, true, true, false, false, false, false, false, false]
abbrev zb37_Px5 : Array Bool := #[true, true, true, true, true, true, true, true, true, true, true, false, false, false, false, false]
open Go.RowKit Go.Proofs.YthdfkbkenklcaaaDoorW.PrintWords Go.Proofs.YthdfkbkenklcaaaDoorW.PrintLast Go.Proofs.YthdfkbkenklcaaaDoorW.PrintMore
attribute [local go_sem] isSome_setCell_eq max2_int min2_int max_two min_two max_three min_three max_four min_four
set_option linter.unusedVariables false
set_option linter.unusedSimpArgs false
def isa_Text.f (k : Nat) (a0_0 : Int) (a0_1 : Int) (a0_2 : Int) (a0_3 : Int) (a0_4 : Int) : Option (ByteArray) := (isa_Enc.f k a0_0 a0_1 a0_2 a0_3 a0_4).bind fun bt147 => (if bt147.2 = 0 then ((strings_Split.f (⟨#[97, 100, 100, 32, 115, 117, 98, 32, 109, 117, 108, 32, 100, 105, 118, 32, 114, 101, 109, 32, 97, 110, 100, 32, 111, 114, 32, 120, 111, 114, 32, 115, 104, 108, 32, 115, 104, 114, 32, 115, 97, 114, 32, 115, 108, 116, 32, 115, 108, 116, 117, 32, 97, 100, 100, 105, 32, 97, 110, 100, 105, 32, 111, 114, 105, 32, 120, 111, 114, 105, 32, 115, 108, 116, 105, 32, 108, 117, 105, 32, 108, 119, 32, 108, 98, 32, 108, 98, 117, 32, 115, 119, 32, 115, 98, 32, 98, 101, 113, 32, 98, 110, 101, 32, 98, 108, 116, 32, 98, 108, 116, 117, 32, 106, 97, 108, 32, 106, 97, 108, 114, 32, 115, 121, 115]⟩ : ByteArray) (⟨#[32]⟩ : ByteArray)).bind fun t149 => (if 0 ≤ ((a0_0 - 1) % 256) then (if ((a0_0 - 1) % 256) < (t149.length : Int) then ((strconv_Itoa_27.f (wrap64 (a0_4))).bind fun t153 => ((isa_form.f a0_0).bind fun t154 => (if t154 = 114 then ((isa_Text_1.f a0_1).bind fun t155 => ((isa_Text_1.f a0_2).bind fun t156 => ((isa_Text_1.f a0_3).bind fun t157 => ((isa_line.f (rdOf ByteArray.empty t149 ((a0_0 - 1) % 256)) (([t155, t156, t157] : List ByteArray))).bind fun t161 => (some t161))))) else (if t154 = 105 then ((isa_Text_1.f a0_1).bind fun t162 => ((isa_Text_1.f a0_2).bind fun t163 => ((isa_line.f (rdOf ByteArray.empty t149 ((a0_0 - 1) % 256)) (([t162, t163, t153] : List ByteArray))).bind fun t167 => (some t167)))) else (if t154 = 108 then ((isa_Text_1.f a0_1).bind fun t168 => ((isa_line.f (rdOf ByteArray.empty t149 ((a0_0 - 1) % 256)) (([t168, t153] : List ByteArray))).bind fun t172 => (some t172))) else (if t154 = 109 then ((isa_Text_1.f a0_1).bind fun t173 => (if t153.size + 1 ≤ 9223372036854775807 then ((isa_Text_1.f a0_2).bind fun t174 => (if (t153 ++ (⟨#[40]⟩ : ByteArray)).size + t174.size ≤ 9223372036854775807 then (if ((t153 ++ (⟨#[40]⟩ : ByteArray)) ++ t174).size + 1 ≤ 9223372036854775807 then ((isa_line.f (rdOf ByteArray.empty t149 ((a0_0 - 1) % 256)) (([t173, ((t153 ++ (⟨#[40]⟩ : ByteArray)) ++ t174) ++ (⟨#[41]⟩ : ByteArray)] : List ByteArray))).bind fun t178 => (some t178)) else (none)) else (none))) else (none))) else ((isa_line.f (rdOf ByteArray.empty t149 ((a0_0 - 1) % 256)) (([t153] : List ByteArray))).bind fun t182 => (some t182)))))))) else (none)) else (none))) else (some (⟨#[]⟩ : ByteArray)))
theorem isa_Text.mono : ∀ a0 a1 a2 a3 a4 k, LeO (isa_Text.f k a0 a1 a2 a3 a4) (isa_Text.f (k + 1) a0 a1 a2 a3 a4) := by
  intro a0 a1 a2 a3 a4 k
  unfold isa_Text.f
  repeat' first
      | (with_reducible exact isa_Enc.mono _ _ _ _ _ _)
      | (with_reducible exact LeO.refl _)
      | (with_reducible exact LeO.none _)
      | (with_reducible refine LeO.ite ?_ ?_)
      | (with_reducible refine LeO.bind ?_ (fun _ => ?_))
      | exact isa_Enc.mono _ _ _ _ _ _
      | exact LeO.none _
      | refine LeO.ite ?_ ?_
      | refine LeO.bind ?_ (fun _ => ?_)
def isa_Text.T9 : Bool × List (List Nat × List Nat) := (true, [([], []), ([], []), ([], []), ([2], [2]), ([1, 3], [1, 3]), ([], []), ([], []), ([6], [6]), ([5, 7, 4], [5, 7]), ([], []), ([], []), ([10], [10]), ([9, 11, 8], [9, 11]), ([4, 8, 12], [4, 8, 12]), ([0, 13, 12], [0, 13]), ([14, 14, 0, 1, 2, 3, 4, 5, 6, 7, 8, 9, 10, 11, 12, 13, 14], [14])])
def isa_Text.B9 : List Nat := [0, 0, 0, 4, 14, 0, 0, 64, 254, 0, 0, 1024, 4094, 8190, 16383, 32767]
theorem isa_Text.tab9 : rtab .any (opsOf Tryd.f15 9) = isa_Text.T9 := by kernel_rfl
theorem isa_Text.bits9 : waitsOk isa_Text.T9.2 isa_Text.B9 = true := by kernel_rfl
def isa_Text.T11 : Bool × List (List Nat × List Nat) := (true, [([], []), ([], []), ([], []), ([2], [2]), ([1, 3], [1, 3]), ([], []), ([], []), ([6], [6]), ([5, 7, 4], [5, 7]), ([], []), ([4, 8, 9], [4, 8, 9]), ([0, 10, 8], [0, 10]), ([11, 11, 0, 1, 2, 3, 4, 5, 6, 7, 8, 9, 10, 11], [11])])
def isa_Text.B11 : List Nat := [0, 0, 0, 4, 14, 0, 0, 64, 254, 0, 1022, 2047, 4095]
theorem isa_Text.tab11 : rtab .any (opsOf Tryd.f15 11) = isa_Text.T11 := by kernel_rfl
theorem isa_Text.bits11 : waitsOk isa_Text.T11.2 isa_Text.B11 = true := by kernel_rfl
def isa_Text.T15 : Bool × List (List Nat × List Nat) := (true, [([], []), ([], []), ([], []), ([2], [2]), ([1, 3], [1, 3]), ([], []), ([5], [5]), ([], []), ([], []), ([8], [8]), ([7, 9, 4], [7, 9]), ([6, 10], [6, 10]), ([11], [11]), ([4, 12], [4, 12]), ([0, 13, 10], [0, 13]), ([14, 14, 0, 1, 2, 3, 4, 5, 6, 7, 8, 9, 10, 11, 12, 13, 14], [14])])
def isa_Text.B15 : List Nat := [0, 0, 0, 4, 14, 0, 32, 0, 0, 256, 926, 2046, 4094, 8190, 16383, 32767]
theorem isa_Text.tab15 : rtab .any (opsOf Tryd.f15 15) = isa_Text.T15 := by kernel_rfl
theorem isa_Text.bits15 : waitsOk isa_Text.T15.2 isa_Text.B15 = true := by kernel_rfl
set_option maxHeartbeats 8000000 in
set_option maxRecDepth 100000 in
theorem isa_Text.calls (k : Nat) (a0_0 : Int) (a0_1 : Int) (a0_2 : Int) (a0_3 : Int) (a0_4 : Int) (r : ByteArray) (w : World) (hL : Aside0 (Laid w)) (h : isa_Text.f k a0_0 a0_1 a0_2 a0_3 a0_4 = some r) :
    Calls Tryd.prog 15 #[.agg #[.int .u8 a0_0, .int .u8 a0_1, .int .u8 a0_2, .int .u8 a0_3, .int .i32 a0_4]] w fun e w' => e = .returned (.string r) ∧ Below w.heap.size w w' := by
  have hu23 := Tryd.underlying23
  have HB := Aside0.mk (Below.refl w.heap.size w)
  have H : ((isa_Enc.f k a0_0 a0_1 a0_2 a0_3 a0_4).bind fun bt147 => (if bt147.2 = 0 then ((strings_Split.f (⟨#[97, 100, 100, 32, 115, 117, 98, 32, 109, 117, 108, 32, 100, 105, 118, 32, 114, 101, 109, 32, 97, 110, 100, 32, 111, 114, 32, 120, 111, 114, 32, 115, 104, 108, 32, 115, 104, 114, 32, 115, 97, 114, 32, 115, 108, 116, 32, 115, 108, 116, 117, 32, 97, 100, 100, 105, 32, 97, 110, 100, 105, 32, 111, 114, 105, 32, 120, 111, 114, 105, 32, 115, 108, 116, 105, 32, 108, 117, 105, 32, 108, 119, 32, 108, 98, 32, 108, 98, 117, 32, 115, 119, 32, 115, 98, 32, 98, 101, 113, 32, 98, 110, 101, 32, 98, 108, 116, 32, 98, 108, 116, 117, 32, 106, 97, 108, 32, 106, 97, 108, 114, 32, 115, 121, 115]⟩ : ByteArray) (⟨#[32]⟩ : ByteArray)).bind fun t149 => (if 0 ≤ ((a0_0 - 1) % 256) then (if ((a0_0 - 1) % 256) < (t149.length : Int) then ((strconv_Itoa_27.f (wrap64 (a0_4))).bind fun t153 => ((isa_form.f a0_0).bind fun t154 => (if t154 = 114 then ((isa_Text_1.f a0_1).bind fun t155 => ((isa_Text_1.f a0_2).bind fun t156 => ((isa_Text_1.f a0_3).bind fun t157 => ((isa_line.f (rdOf ByteArray.empty t149 ((a0_0 - 1) % 256)) (([t155, t156, t157] : List ByteArray))).bind fun t161 => (some t161))))) else (if t154 = 105 then ((isa_Text_1.f a0_1).bind fun t162 => ((isa_Text_1.f a0_2).bind fun t163 => ((isa_line.f (rdOf ByteArray.empty t149 ((a0_0 - 1) % 256)) (([t162, t163, t153] : List ByteArray))).bind fun t167 => (some t167)))) else (if t154 = 108 then ((isa_Text_1.f a0_1).bind fun t168 => ((isa_line.f (rdOf ByteArray.empty t149 ((a0_0 - 1) % 256)) (([t168, t153] : List ByteArray))).bind fun t172 => (some t172))) else (if t154 = 109 then ((isa_Text_1.f a0_1).bind fun t173 => (if t153.size + 1 ≤ 9223372036854775807 then ((isa_Text_1.f a0_2).bind fun t174 => (if (t153 ++ (⟨#[40]⟩ : ByteArray)).size + t174.size ≤ 9223372036854775807 then (if ((t153 ++ (⟨#[40]⟩ : ByteArray)) ++ t174).size + 1 ≤ 9223372036854775807 then ((isa_line.f (rdOf ByteArray.empty t149 ((a0_0 - 1) % 256)) (([t173, ((t153 ++ (⟨#[40]⟩ : ByteArray)) ++ t174) ++ (⟨#[41]⟩ : ByteArray)] : List ByteArray))).bind fun t178 => (some t178)) else (none)) else (none))) else (none))) else ((isa_line.f (rdOf ByteArray.empty t149 ((a0_0 - 1) % 256)) (([t153] : List ByteArray))).bind fun t182 => (some t182)))))))) else (none)) else (none))) else (some (⟨#[]⟩ : ByteArray)))) = some r := h
  clear h
  replace H := Option.bind_eq_some_iff.mp H
  obtain ⟨⟨t147, t148⟩, A20, H⟩ := H
  replace H : (if t148 = 0 then ((strings_Split.f (⟨#[97, 100, 100, 32, 115, 117, 98, 32, 109, 117, 108, 32, 100, 105, 118, 32, 114, 101, 109, 32, 97, 110, 100, 32, 111, 114, 32, 120, 111, 114, 32, 115, 104, 108, 32, 115, 104, 114, 32, 115, 97, 114, 32, 115, 108, 116, 32, 115, 108, 116, 117, 32, 97, 100, 100, 105, 32, 97, 110, 100, 105, 32, 111, 114, 105, 32, 120, 111, 114, 105, 32, 115, 108, 116, 105, 32, 108, 117, 105, 32, 108, 119, 32, 108, 98, 32, 108, 98, 117, 32, 115, 119, 32, 115, 98, 32, 98, 101, 113, 32, 98, 110, 101, 32, 98, 108, 116, 32, 98, 108, 116, 117, 32, 106, 97, 108, 32, 106, 97, 108, 114, 32, 115, 121, 115]⟩ : ByteArray) (⟨#[32]⟩ : ByteArray)).bind fun t149 => (if 0 ≤ ((a0_0 - 1) % 256) then (if ((a0_0 - 1) % 256) < (t149.length : Int) then ((strconv_Itoa_27.f (wrap64 (a0_4))).bind fun t153 => ((isa_form.f a0_0).bind fun t154 => (if t154 = 114 then ((isa_Text_1.f a0_1).bind fun t155 => ((isa_Text_1.f a0_2).bind fun t156 => ((isa_Text_1.f a0_3).bind fun t157 => ((isa_line.f (rdOf ByteArray.empty t149 ((a0_0 - 1) % 256)) (([t155, t156, t157] : List ByteArray))).bind fun t161 => (some t161))))) else (if t154 = 105 then ((isa_Text_1.f a0_1).bind fun t162 => ((isa_Text_1.f a0_2).bind fun t163 => ((isa_line.f (rdOf ByteArray.empty t149 ((a0_0 - 1) % 256)) (([t162, t163, t153] : List ByteArray))).bind fun t167 => (some t167)))) else (if t154 = 108 then ((isa_Text_1.f a0_1).bind fun t168 => ((isa_line.f (rdOf ByteArray.empty t149 ((a0_0 - 1) % 256)) (([t168, t153] : List ByteArray))).bind fun t172 => (some t172))) else (if t154 = 109 then ((isa_Text_1.f a0_1).bind fun t173 => (if t153.size + 1 ≤ 9223372036854775807 then ((isa_Text_1.f a0_2).bind fun t174 => (if (t153 ++ (⟨#[40]⟩ : ByteArray)).size + t174.size ≤ 9223372036854775807 then (if ((t153 ++ (⟨#[40]⟩ : ByteArray)) ++ t174).size + 1 ≤ 9223372036854775807 then ((isa_line.f (rdOf ByteArray.empty t149 ((a0_0 - 1) % 256)) (([t173, ((t153 ++ (⟨#[40]⟩ : ByteArray)) ++ t174) ++ (⟨#[41]⟩ : ByteArray)] : List ByteArray))).bind fun t178 => (some t178)) else (none)) else (none))) else (none))) else ((isa_line.f (rdOf ByteArray.empty t149 ((a0_0 - 1) % 256)) (([t153] : List ByteArray))).bind fun t182 => (some t182)))))))) else (none)) else (none))) else (some (⟨#[]⟩ : ByteArray))) = some r := H
  have A2 := Aside0.mk A20
  clear A20
  by_cases c3 : t148 = 0
  · rw [if_pos c3] at H
    have c3b0 : (t148 == 0) = true := beq_iff_eq.mpr c3
    have c3b1 : (t148 != 0) = false := bne_eq_false_iff_eq.mpr c3
    clear c3
    replace H := Option.bind_eq_some_iff.mp H
    obtain ⟨t149, A40, H⟩ := H
    replace H : (if 0 ≤ ((a0_0 - 1) % 256) then (if ((a0_0 - 1) % 256) < (t149.length : Int) then ((strconv_Itoa_27.f (wrap64 (a0_4))).bind fun t153 => ((isa_form.f a0_0).bind fun t154 => (if t154 = 114 then ((isa_Text_1.f a0_1).bind fun t155 => ((isa_Text_1.f a0_2).bind fun t156 => ((isa_Text_1.f a0_3).bind fun t157 => ((isa_line.f (rdOf ByteArray.empty t149 ((a0_0 - 1) % 256)) (([t155, t156, t157] : List ByteArray))).bind fun t161 => (some t161))))) else (if t154 = 105 then ((isa_Text_1.f a0_1).bind fun t162 => ((isa_Text_1.f a0_2).bind fun t163 => ((isa_line.f (rdOf ByteArray.empty t149 ((a0_0 - 1) % 256)) (([t162, t163, t153] : List ByteArray))).bind fun t167 => (some t167)))) else (if t154 = 108 then ((isa_Text_1.f a0_1).bind fun t168 => ((isa_line.f (rdOf ByteArray.empty t149 ((a0_0 - 1) % 256)) (([t168, t153] : List ByteArray))).bind fun t172 => (some t172))) else (if t154 = 109 then ((isa_Text_1.f a0_1).bind fun t173 => (if t153.size + 1 ≤ 9223372036854775807 then ((isa_Text_1.f a0_2).bind fun t174 => (if (t153 ++ (⟨#[40]⟩ : ByteArray)).size + t174.size ≤ 9223372036854775807 then (if ((t153 ++ (⟨#[40]⟩ : ByteArray)) ++ t174).size + 1 ≤ 9223372036854775807 then ((isa_line.f (rdOf ByteArray.empty t149 ((a0_0 - 1) % 256)) (([t173, ((t153 ++ (⟨#[40]⟩ : ByteArray)) ++ t174) ++ (⟨#[41]⟩ : ByteArray)] : List ByteArray))).bind fun t178 => (some t178)) else (none)) else (none))) else (none))) else ((isa_line.f (rdOf ByteArray.empty t149 ((a0_0 - 1) % 256)) (([t153] : List ByteArray))).bind fun t182 => (some t182)))))))) else (none)) else (none)) = some r := H
    have A4 := Aside0.mk A40
    clear A40
    obtain ⟨ji5, hji5⟩ : ∃ j_ : Int, ((a0_0 - 1) % 256) = j_ := ⟨_, rfl⟩
    have hji5w : IntKind.u8.wrap (a0_0 - 1) = ji5 := (IntKind.wrap_u8 _).trans hji5
    replace H : (if 0 ≤ (ji5) then (if (ji5) < (t149.length : Int) then ((strconv_Itoa_27.f (wrap64 (a0_4))).bind fun t153 => ((isa_form.f a0_0).bind fun t154 => (if t154 = 114 then ((isa_Text_1.f a0_1).bind fun t155 => ((isa_Text_1.f a0_2).bind fun t156 => ((isa_Text_1.f a0_3).bind fun t157 => ((isa_line.f (rdOf ByteArray.empty t149 (ji5)) (([t155, t156, t157] : List ByteArray))).bind fun t161 => (some t161))))) else (if t154 = 105 then ((isa_Text_1.f a0_1).bind fun t162 => ((isa_Text_1.f a0_2).bind fun t163 => ((isa_line.f (rdOf ByteArray.empty t149 (ji5)) (([t162, t163, t153] : List ByteArray))).bind fun t167 => (some t167)))) else (if t154 = 108 then ((isa_Text_1.f a0_1).bind fun t168 => ((isa_line.f (rdOf ByteArray.empty t149 (ji5)) (([t168, t153] : List ByteArray))).bind fun t172 => (some t172))) else (if t154 = 109 then ((isa_Text_1.f a0_1).bind fun t173 => (if t153.size + 1 ≤ 9223372036854775807 then ((isa_Text_1.f a0_2).bind fun t174 => (if (t153 ++ (⟨#[40]⟩ : ByteArray)).size + t174.size ≤ 9223372036854775807 then (if ((t153 ++ (⟨#[40]⟩ : ByteArray)) ++ t174).size + 1 ≤ 9223372036854775807 then ((isa_line.f (rdOf ByteArray.empty t149 (ji5)) (([t173, ((t153 ++ (⟨#[40]⟩ : ByteArray)) ++ t174) ++ (⟨#[41]⟩ : ByteArray)] : List ByteArray))).bind fun t178 => (some t178)) else (none)) else (none))) else (none))) else ((isa_line.f (rdOf ByteArray.empty t149 (ji5)) (([t153] : List ByteArray))).bind fun t182 => (some t182)))))))) else (none)) else (none)) = some r := by first | (rw [hji5] at H; exact H) | (simp only [hji5] at H ⊢; exact H)
    (try rw [hji5] at A2)
    (try rw [hji5] at A4)
    by_cases c6 : 0 ≤ (ji5)
    · rw [if_pos c6] at H
      have c6b0 : decide (0 ≤ (ji5)) = true := decide_eq_true c6
      clear c6
      by_cases c7 : (ji5) < (t149.length : Int)
      · rw [if_pos c7] at H
        have c7b0 : decide ((ji5) < (t149.length : Int)) = true := decide_eq_true c7
        clear c7
        replace H := Option.bind_eq_some_iff.mp H
        obtain ⟨t153, A80, H⟩ := H
        replace H : ((isa_form.f a0_0).bind fun t154 => (if t154 = 114 then ((isa_Text_1.f a0_1).bind fun t155 => ((isa_Text_1.f a0_2).bind fun t156 => ((isa_Text_1.f a0_3).bind fun t157 => ((isa_line.f (rdOf ByteArray.empty t149 (ji5)) (([t155, t156, t157] : List ByteArray))).bind fun t161 => (some t161))))) else (if t154 = 105 then ((isa_Text_1.f a0_1).bind fun t162 => ((isa_Text_1.f a0_2).bind fun t163 => ((isa_line.f (rdOf ByteArray.empty t149 (ji5)) (([t162, t163, t153] : List ByteArray))).bind fun t167 => (some t167)))) else (if t154 = 108 then ((isa_Text_1.f a0_1).bind fun t168 => ((isa_line.f (rdOf ByteArray.empty t149 (ji5)) (([t168, t153] : List ByteArray))).bind fun t172 => (some t172))) else (if t154 = 109 then ((isa_Text_1.f a0_1).bind fun t173 => (if t153.size + 1 ≤ 9223372036854775807 then ((isa_Text_1.f a0_2).bind fun t174 => (if (t153 ++ (⟨#[40]⟩ : ByteArray)).size + t174.size ≤ 9223372036854775807 then (if ((t153 ++ (⟨#[40]⟩ : ByteArray)) ++ t174).size + 1 ≤ 9223372036854775807 then ((isa_line.f (rdOf ByteArray.empty t149 (ji5)) (([t173, ((t153 ++ (⟨#[40]⟩ : ByteArray)) ++ t174) ++ (⟨#[41]⟩ : ByteArray)] : List ByteArray))).bind fun t178 => (some t178)) else (none)) else (none))) else (none))) else ((isa_line.f (rdOf ByteArray.empty t149 (ji5)) (([t153] : List ByteArray))).bind fun t182 => (some t182))))))) = some r := H
        have A8 := Aside0.mk A80
        clear A80
        replace H := Option.bind_eq_some_iff.mp H
        obtain ⟨t154, A90, H⟩ := H
        replace H : (if t154 = 114 then ((isa_Text_1.f a0_1).bind fun t155 => ((isa_Text_1.f a0_2).bind fun t156 => ((isa_Text_1.f a0_3).bind fun t157 => ((isa_line.f (rdOf ByteArray.empty t149 (ji5)) (([t155, t156, t157] : List ByteArray))).bind fun t161 => (some t161))))) else (if t154 = 105 then ((isa_Text_1.f a0_1).bind fun t162 => ((isa_Text_1.f a0_2).bind fun t163 => ((isa_line.f (rdOf ByteArray.empty t149 (ji5)) (([t162, t163, t153] : List ByteArray))).bind fun t167 => (some t167)))) else (if t154 = 108 then ((isa_Text_1.f a0_1).bind fun t168 => ((isa_line.f (rdOf ByteArray.empty t149 (ji5)) (([t168, t153] : List ByteArray))).bind fun t172 => (some t172))) else (if t154 = 109 then ((isa_Text_1.f a0_1).bind fun t173 => (if t153.size + 1 ≤ 9223372036854775807 then ((isa_Text_1.f a0_2).bind fun t174 => (if (t153 ++ (⟨#[40]⟩ : ByteArray)).size + t174.size ≤ 9223372036854775807 then (if ((t153 ++ (⟨#[40]⟩ : ByteArray)) ++ t174).size + 1 ≤ 9223372036854775807 then ((isa_line.f (rdOf ByteArray.empty t149 (ji5)) (([t173, ((t153 ++ (⟨#[40]⟩ : ByteArray)) ++ t174) ++ (⟨#[41]⟩ : ByteArray)] : List ByteArray))).bind fun t178 => (some t178)) else (none)) else (none))) else (none))) else ((isa_line.f (rdOf ByteArray.empty t149 (ji5)) (([t153] : List ByteArray))).bind fun t182 => (some t182)))))) = some r := H
        have A9 := Aside0.mk A90
        clear A90
        by_cases c10 : t154 = 114
        · rw [if_pos c10] at H
          have c10b0 : (t154 == 114) = true := beq_iff_eq.mpr c10
          have c10b1 : (t154 != 114) = false := bne_eq_false_iff_eq.mpr c10
          clear c10
          replace H := Option.bind_eq_some_iff.mp H
          obtain ⟨t155, A110, H⟩ := H
          replace H : ((isa_Text_1.f a0_2).bind fun t156 => ((isa_Text_1.f a0_3).bind fun t157 => ((isa_line.f (rdOf ByteArray.empty t149 (ji5)) (([t155, t156, t157] : List ByteArray))).bind fun t161 => (some t161)))) = some r := H
          have A11 := Aside0.mk A110
          clear A110
          replace H := Option.bind_eq_some_iff.mp H
          obtain ⟨t156, A120, H⟩ := H
          replace H : ((isa_Text_1.f a0_3).bind fun t157 => ((isa_line.f (rdOf ByteArray.empty t149 (ji5)) (([t155, t156, t157] : List ByteArray))).bind fun t161 => (some t161))) = some r := H
          have A12 := Aside0.mk A120
          clear A120
          replace H := Option.bind_eq_some_iff.mp H
          obtain ⟨t157, A130, H⟩ := H
          replace H : ((isa_line.f (rdOf ByteArray.empty t149 (ji5)) (([t155, t156, t157] : List ByteArray))).bind fun t161 => (some t161)) = some r := H
          have A13 := Aside0.mk A130
          clear A130
          obtain ⟨y158, hy158⟩ : ∃ y_ : List ByteArray, y_ = (([t155, t156, t157] : List ByteArray)) := ⟨_, rfl⟩
          replace H : ((isa_line.f (rdOf ByteArray.empty t149 (ji5)) y158).bind fun t161 => (some t161)) = some r := by first | (rw [hy158]; with_reducible exact H) | (have H2_ := (Option.bind_some _ _).symm.trans H; rw [hy158]; with_reducible exact H2_) | (have H2_ := (Option.bind_some _ _).symm.trans H; with_reducible exact H2_) | with_reducible exact H | (rw [hy158]; exact H) | exact H
          have Ny158 := Aside0.mk hy158
          clear hy158
          replace H := Option.bind_eq_some_iff.mp H
          obtain ⟨t161, A140, H⟩ := H
          replace H : (some t161) = some r := H
          have A14 := Aside0.mk A140
          clear A140
          obtain rfl := Option.some.inj H
          go_enter Tryd.func15, Tryd.ntmps15
          try go_wp2_with (first | ((with_reducible refine gate_dst (N := 1) rfl ?_); refine box_event ?hg (N := 1) ?hd (cs := #[.int .u8 a0_0, .int .u8 a0_1, .int .u8 a0_2, .int .u8 a0_3, .int .i32 a0_4]) (t := 23) ?hr ?_; (case hd => rfl); (case hg => rfl); (case hr => first | (go_simp; done) | (go_simp; rfl)); intro gb146 hg w15 hbox hb; have n0_ := Aside0.mk (below_step (by repeat (first | (with_reducible first | exact HB.out | apply below_alloc | apply pw_below_drewN | apply below_drew1) | exact HB.out)) hb); have n1_ := Aside0.mk (hbox); have n2_ := Aside0.mk ((by rw [hg]; exact (below_size (by repeat (first | (with_reducible first | exact HB.out | apply below_alloc | apply pw_below_drewN | apply below_drew1) | exact HB.out))) : w.heap.size ≤ gb146)); have n3_ := Aside0.mk ((by rw [hg]; exact (below_size (by repeat (first | (with_reducible first | exact HB.out | apply below_alloc | apply pw_below_drewN | apply below_drew1) | exact HB.out))) : w.heap.size ≤ gb146)); clear HB; have HB := n0_; have BK146 := n1_; have GW146 := n2_; have GE146 := n3_; clear n0_ n1_ n2_ n3_; clear hb hbox hg; have hcz16_0 : w15.cell? ⟨gb146, 0, none⟩ = some (.int .u8 a0_0) := (blk_cell BK146.out 0).trans rfl; have hcz16_1 : w15.cell? ⟨gb146, 1, none⟩ = some (.int .u8 a0_1) := (blk_cell BK146.out 1).trans rfl; have hcz16_2 : w15.cell? ⟨gb146, 2, none⟩ = some (.int .u8 a0_2) := (blk_cell BK146.out 2).trans rfl; have hcz16_3 : w15.cell? ⟨gb146, 3, none⟩ = some (.int .u8 a0_3) := (blk_cell BK146.out 3).trans rfl; have hcz16_4 : w15.cell? ⟨gb146, 4, none⟩ = some (.int .i32 a0_4) := (blk_cell BK146.out 4).trans rfl; have hfz16_0 := blk_frozen BK146.out 0; have hfz16_1 := blk_frozen BK146.out 1; have hfz16_2 := blk_frozen BK146.out 2; have hfz16_3 := blk_frozen BK146.out 3; have hfz16_4 := blk_frozen BK146.out 4) | ((with_reducible refine gate_callee (f := 11) rfl ?_); refine goesL_ (some 10) rfl rfl Tryd.func11 (by kernel_rfl) rfl #[.agg #[.int .u8 a0_0, .int .u8 a0_1, .int .u8 a0_2, .int .u8 a0_3, .int .i32 a0_4]] rfl (by (try simp only [List.map_toArray, List.map_cons, List.map_nil]); first | done | rfl | (simp only [List.length_drop, List.length_take]; rfl)) ?_; (with_reducible refine (isa_Enc.calls k a0_0 a0_1 a0_2 a0_3 a0_4 t147 t148 _ A2.out).mono ?_); rintro e w17 ⟨rfl, hb⟩; refine ⟨_, rfl, ?_⟩; have n0_ := Aside0.mk (blk_below (g := gb146) (o := .cells #[.int .u8 a0_0, .int .u8 a0_1, .int .u8 a0_2, .int .u8 a0_3, .int .i32 a0_4] 23 (0, 0)) (by (with_reducible repeat (first | refine blk_drewN ?_ _ | refine blk_drew ?_ | refine blk_alloc ?_ _)); exact BK146.out) hb); have n1_ := Aside0.mk (below_step (by repeat (first | (with_reducible first | exact HB.out | apply below_alloc | apply pw_below_drewN | apply below_drew1 | refine below_set ?_ GE146.out) | exact HB.out)) hb); clear BK146; clear HB; have BK146 := n0_; have HB := n1_; clear n0_ n1_; (try clear hb); (try clear hb2); (try clear hk); (try clear hi)))
          have n0_ := Aside0.mk (blk_drew BK146.out)
          have n1_ := Aside0.mk (below_drew1 HB.out)
          clear BK146
          clear HB
          have BK146 := n0_
          have HB := n1_
          clear n0_ n1_
          refine start_ (n := 7) (S := fun w' => w'.cell? ⟨gb146, 0, none⟩ = some (.int .u8 a0_0) ∧ w'.cell? ⟨gb146, 1, none⟩ = some (.int .u8 a0_1) ∧ w'.cell? ⟨gb146, 2, none⟩ = some (.int .u8 a0_2) ∧ w'.cell? ⟨gb146, 3, none⟩ = some (.int .u8 a0_3) ∧ w'.cell? ⟨gb146, 4, none⟩ = some (.int .i32 a0_4)) (ds := []) #[false, false, false, false, false, false, false] (by kernel_rfl) rfl rfl ⟨(blk_cell BK146.out 0).trans rfl, (blk_cell BK146.out 1).trans rfl, (blk_cell BK146.out 2).trans rfl, (blk_cell BK146.out 3).trans rfl, (blk_cell BK146.out 4).trans rfl⟩ (fun hHeld => ?_)
          generalize w17.drew = w18 at BK146 HB hHeld ⊢
          refine pure_ (i := 1) (N := some 16) (v := ?_) (a' := ?_) #[false, true, false, false, false, false, false] rfl rfl (by kernel_rfl) (fun _ _ _ h => h) (Or.inl ⟨by rfl, ?_⟩) ?_ ?_
          rotate_left
          · intro w'
            go_simp
            with_reducible rfl
          rotate_left
          · simp only [Act.put, List.setIfInBounds_toArray, List.set_cons_zero, List.set_cons_succ, i64_w, i32_w]
            rfl
          refine take_ (i := 2) (N := some 17) (v := ?_) (a' := ?_) #[false, true, true, false, false, false, false] rfl rfl (by kernel_rfl) (fun _ _ _ h => h) (Or.inl ⟨by rfl, ?_⟩) hHeld ?_ ?_
          rotate_left
          · rintro w' ⟨s0, s1, s2, s3, s4⟩
            go_simp
            with_reducible rfl
          rotate_left
          · simp only [Act.put, List.setIfInBounds_toArray, List.set_cons_zero, List.set_cons_succ, i64_w, i32_w]
            rfl
          refine pure_ (i := 3) (N := some 18) (v := ?_) (a' := ?_) #[false, true, true, true, false, false, false] rfl rfl (by kernel_rfl) (fun _ _ _ h => h) (Or.inl ⟨by rfl, ?_⟩) ?_ ?_
          rotate_left
          · intro w'
            go_simp
            with_reducible rfl
          rotate_left
          · simp only [Act.put, List.setIfInBounds_toArray, List.set_cons_zero, List.set_cons_succ, i64_w, i32_w]
            rfl
          refine one_ (i := 0) (N := some 15) #[true, true, true, true, false, false, false] rfl rfl (by kernel_rfl) (by decide) (fun K hK => ?_)
          refine goes_ Tryd.func25 (by kernel_rfl) rfl #[.string (⟨#[97, 100, 100, 32, 115, 117, 98, 32, 109, 117, 108, 32, 100, 105, 118, 32, 114, 101, 109, 32, 97, 110, 100, 32, 111, 114, 32, 120, 111, 114, 32, 115, 104, 108, 32, 115, 104, 114, 32, 115, 97, 114, 32, 115, 108, 116, 32, 115, 108, 116, 117, 32, 97, 100, 100, 105, 32, 97, 110, 100, 105, 32, 111, 114, 105, 32, 120, 111, 114, 105, 32, 115, 108, 116, 105, 32, 108, 117, 105, 32, 108, 119, 32, 108, 98, 32, 108, 98, 117, 32, 115, 119, 32, 115, 98, 32, 98, 101, 113, 32, 98, 110, 101, 32, 98, 108, 116, 32, 98, 108, 116, 117, 32, 106, 97, 108, 32, 106, 97, 108, 114, 32, 115, 121, 115]⟩ : ByteArray), .string (⟨#[32]⟩ : ByteArray)] (by rfl) rfl rfl (by (try simp only [List.map_toArray, List.map_cons, List.map_nil]); first | done | rfl | (simp only [List.length_drop, List.length_take]; rfl)) ?_
          with_reducible refine (strings_Split.calls (⟨#[97, 100, 100, 32, 115, 117, 98, 32, 109, 117, 108, 32, 100, 105, 118, 32, 114, 101, 109, 32, 97, 110, 100, 32, 111, 114, 32, 120, 111, 114, 32, 115, 104, 108, 32, 115, 104, 114, 32, 115, 97, 114, 32, 115, 108, 116, 32, 115, 108, 116, 117, 32, 97, 100, 100, 105, 32, 97, 110, 100, 105, 32, 111, 114, 105, 32, 120, 111, 114, 105, 32, 115, 108, 116, 105, 32, 108, 117, 105, 32, 108, 119, 32, 108, 98, 32, 108, 98, 117, 32, 115, 119, 32, 115, 98, 32, 98, 101, 113, 32, 98, 110, 101, 32, 98, 108, 116, 32, 98, 108, 116, 117, 32, 106, 97, 108, 32, 106, 97, 108, 114, 32, 115, 121, 115]⟩ : ByteArray) (⟨#[32]⟩ : ByteArray) t149 _ (hL.laid (by repeat (first | (with_reducible first | exact HB.out | apply below_alloc | apply pw_below_drewN | apply below_drew1 | refine below_set ?_ GE146.out) | exact HB.out))) A4.out).mono ?_
          rintro e w19 ⟨v150, rfl, ho0, hb⟩
          refine ⟨_, rfl, ?_⟩
          have n0_ := Aside0.mk (Kd.R_lower ho0 (below_size (by repeat (first | (with_reducible first | exact HB.out | apply below_alloc | apply pw_below_drewN | apply below_drew1 | refine below_set ?_ GE146.out) | exact HB.out))))
          have n1_ := Aside0.mk (blk_below (g := gb146) (o := .cells #[.int .u8 a0_0, .int .u8 a0_1, .int .u8 a0_2, .int .u8 a0_3, .int .i32 a0_4] 23 (0, 0)) (by (with_reducible repeat (first | refine blk_drewN ?_ _ | refine blk_drew ?_ | refine blk_alloc ?_ _)); exact BK146.out) hb)
          have n2_ := Aside0.mk (below_step (by repeat (first | (with_reducible first | exact HB.out | apply below_alloc | apply pw_below_drewN | apply below_drew1 | refine below_set ?_ GE146.out) | exact HB.out)) hb)
          clear BK146
          clear HB
          have HO151 := n0_
          have BK146 := n1_
          have HB := n2_
          clear n0_ n1_ n2_
          (try clear hb)
          (try clear hb2)
          (try clear hk)
          (try clear hi)
          (try clear ho0)
          obtain ⟨Ao20, co20, eo20⟩ := Kd.R_slice HO151.out
          (first | subst eo20 | (injection eo20 with f1_ f2_ f3_; have f4_ := f1_.symm; have f5_ := f3_.symm; clear f1_ f2_ f3_; subst f4_; subst f5_))
          have p152 : 0 ≤ ((ji5) : Int) := of_decide_eq_true (by first | (with_reducible assumption) | assumption)
          have q152 : (ji5) < (t149.length : Int) := of_decide_eq_true (by first | (with_reducible assumption) | assumption)
          obtain ⟨ad152, e152, hx152_0⟩ := Kd.at_string (Kd.R_reads' HO151.out).2.2 (ji5) p152 q152
          cases e152
          replace p152 := eq_true p152
          replace q152 := eq_true q152
          refine hK.out _ _ ⟨(blk_cell BK146.out 0).trans rfl, (blk_cell BK146.out 1).trans rfl, (blk_cell BK146.out 2).trans rfl, (blk_cell BK146.out 3).trans rfl, (blk_cell BK146.out 4).trans rfl⟩ (fun hHeld => ?_)
          clear hK K
          refine norm_ (a' := ?_) ?_ ?_
          rotate_left
          · show Act.put _ (some 15) _ = _
            simp only [Act.put, List.setIfInBounds_toArray, List.set_cons_zero, List.set_cons_succ, i64_w, i32_w]
            rfl
          refine pure_ (i := 4) (N := some 19) (v := ?_) (a' := ?_) #[true, true, true, true, true, false, false] rfl rfl (by kernel_rfl) (fun _ _ _ h => h) (Or.inl ⟨by rfl, ?_⟩) ?_ ?_
          rotate_left
          · intro w'
            go_simp
            with_reducible rfl
          rotate_left
          · simp only [Act.put, List.setIfInBounds_toArray, List.set_cons_zero, List.set_cons_succ, i64_w, i32_w]
            rfl
          refine one_ (i := 5) (N := some 20) #[true, true, true, true, true, true, false] rfl rfl (by kernel_rfl) (by decide) (fun K hK => ?_)
          go_wp2
          refine hK.out _ _ ⟨(blk_cell BK146.out 0).trans rfl, (blk_cell BK146.out 1).trans rfl, (blk_cell BK146.out 2).trans rfl, (blk_cell BK146.out 3).trans rfl, (blk_cell BK146.out 4).trans rfl⟩ (fun hHeld => ?_)
          clear hK K
          refine pure_ (i := 6) (N := some 5) (v := ?_) (a' := ?_) #[true, true, true, true, true, true, true] rfl rfl (by kernel_rfl) (fun _ _ _ h => h) (Or.inl ⟨by rfl, ?_⟩) ?_ ?_
          rotate_left
          · intro w'
            go_simp
            with_reducible rfl
          rotate_left
          · simp only [Act.put, List.setIfInBounds_toArray, List.set_cons_zero, List.set_cons_succ, i64_w, i32_w]
            rfl
          refine done_ (by kernel_rfl) ?_
          have hcz21_0 : w19.cell? ⟨gb146, 0, none⟩ = some (.int .u8 a0_0) := (blk_cell BK146.out 0).trans rfl
          have hcz21_1 : w19.cell? ⟨gb146, 1, none⟩ = some (.int .u8 a0_1) := (blk_cell BK146.out 1).trans rfl
          have hcz21_2 : w19.cell? ⟨gb146, 2, none⟩ = some (.int .u8 a0_2) := (blk_cell BK146.out 2).trans rfl
          have hcz21_3 : w19.cell? ⟨gb146, 3, none⟩ = some (.int .u8 a0_3) := (blk_cell BK146.out 3).trans rfl
          have hcz21_4 : w19.cell? ⟨gb146, 4, none⟩ = some (.int .i32 a0_4) := (blk_cell BK146.out 4).trans rfl
          have hfz21_0 := blk_frozen BK146.out 0
          have hfz21_1 := blk_frozen BK146.out 1
          have hfz21_2 := blk_frozen BK146.out 2
          have hfz21_3 := blk_frozen BK146.out 3
          have hfz21_4 := blk_frozen BK146.out 4
          try go_wp2_with (first | ((with_reducible refine gate_callee (f := 27) rfl ?_); refine goesL_ (some 24) rfl rfl Tryd.func27 (by kernel_rfl) rfl #[.int .i64 (wrap64 (a0_4))] rfl (by (try simp only [List.map_toArray, List.map_cons, List.map_nil]); first | done | rfl | (simp only [List.length_drop, List.length_take]; rfl)) ?_; (with_reducible refine (strconv_Itoa_27.calls (wrap64 (a0_4)) t153 _ (hL.laid (by repeat (first | (with_reducible first | exact HB.out | apply below_alloc | apply pw_below_drewN | apply below_drew1 | refine below_set ?_ GE146.out) | exact HB.out))) A8.out).mono ?_); rintro e w22 ⟨rfl, hb⟩; refine ⟨_, rfl, ?_⟩; have n0_ := Aside0.mk (Kd.R_below (by (with_reducible repeat (first | apply Kd.R_alloc | apply Kd.R_drewN | apply Kd.R_drew)); exact HO151.out) hb); have n1_ := Aside0.mk (blk_below (g := gb146) (o := .cells #[.int .u8 a0_0, .int .u8 a0_1, .int .u8 a0_2, .int .u8 a0_3, .int .i32 a0_4] 23 (0, 0)) (by (with_reducible repeat (first | refine blk_drewN ?_ _ | refine blk_drew ?_ | refine blk_alloc ?_ _)); exact BK146.out) hb); have n2_ := Aside0.mk (below_step (by repeat (first | (with_reducible first | exact HB.out | apply below_alloc | apply pw_below_drewN | apply below_drew1 | refine below_set ?_ GE146.out) | exact HB.out)) hb); clear HO151; clear BK146; clear HB; have HO151 := n0_; have BK146 := n1_; have HB := n2_; clear n0_ n1_ n2_; (try clear hb); (try clear hb2); (try clear hk); (try clear hi); have hcz23_0 : w22.cell? ⟨gb146, 0, none⟩ = some (.int .u8 a0_0) := (blk_cell BK146.out 0).trans rfl; have hcz23_1 : w22.cell? ⟨gb146, 1, none⟩ = some (.int .u8 a0_1) := (blk_cell BK146.out 1).trans rfl; have hcz23_2 : w22.cell? ⟨gb146, 2, none⟩ = some (.int .u8 a0_2) := (blk_cell BK146.out 2).trans rfl; have hcz23_3 : w22.cell? ⟨gb146, 3, none⟩ = some (.int .u8 a0_3) := (blk_cell BK146.out 3).trans rfl; have hcz23_4 : w22.cell? ⟨gb146, 4, none⟩ = some (.int .i32 a0_4) := (blk_cell BK146.out 4).trans rfl; have hfz23_0 := blk_frozen BK146.out 0; have hfz23_1 := blk_frozen BK146.out 1; have hfz23_2 := blk_frozen BK146.out 2; have hfz23_3 := blk_frozen BK146.out 3; have hfz23_4 := blk_frozen BK146.out 4) | ((with_reducible refine gate_callee (f := 19) rfl ?_); refine goesL_ (some 27) rfl rfl Tryd.func19 (by kernel_rfl) rfl #[.int .u8 a0_0] rfl (by (try simp only [List.map_toArray, List.map_cons, List.map_nil]); first | done | rfl | (simp only [List.length_drop, List.length_take]; rfl)) ?_; (with_reducible refine (isa_form.calls a0_0 t154 _ A9.out).mono ?_); rintro e w' ⟨rfl, ⟨nd, rfl⟩⟩; refine ⟨_, rfl, ?_⟩))
          (try (rw [drewN_self w22]; generalize hq_ : World.drewN w22 _ = w22; have n0_ : Aside0 (Kd.R Kd.string 9 w22 w.heap.size (fun _ => True) (.slice (some ad152) t149.length co20) t149) := ⟨by rw [← hq_]; exact (by (with_reducible repeat (first | apply Kd.R_alloc | apply Kd.R_drewN | apply Kd.R_drew)); exact HO151.out)⟩; have n1_ : Aside0 (w22.heap[gb146]? = some (.cells #[.int .u8 a0_0, .int .u8 a0_1, .int .u8 a0_2, .int .u8 a0_3, .int .i32 a0_4] 23 (0, 0))) := ⟨by rw [← hq_]; exact (by (with_reducible repeat (first | refine blk_drewN ?_ _ | refine blk_drew ?_ | refine blk_alloc ?_ _)); exact BK146.out)⟩; have n2_ : Aside0 (Below w.heap.size w w22) := ⟨by rw [← hq_]; exact (by repeat (first | (with_reducible first | exact HB.out | apply below_alloc | apply pw_below_drewN | apply below_drew1 | refine below_set ?_ GE146.out) | exact HB.out))⟩; clear HO151 BK146 HB hq_; have HO151 := n0_; have BK146 := n1_; have HB := n2_; clear n0_ n1_ n2_))
          have n0_ := Aside0.mk (Kd.R_drew HO151.out)
          have n1_ := Aside0.mk (blk_drew BK146.out)
          have n2_ := Aside0.mk (below_drew1 HB.out)
          clear HO151
          clear BK146
          clear HB
          have HO151 := n0_
          have BK146 := n1_
          have HB := n2_
          clear n0_ n1_ n2_
          refine start_ (n := 16) (S := fun w' => w'.cell? ⟨gb146, 0, none⟩ = some (.int .u8 a0_0) ∧ w'.cell? ⟨gb146, 1, none⟩ = some (.int .u8 a0_1) ∧ w'.cell? ⟨gb146, 2, none⟩ = some (.int .u8 a0_2) ∧ w'.cell? ⟨gb146, 3, none⟩ = some (.int .u8 a0_3) ∧ w'.cell? ⟨gb146, 4, none⟩ = some (.int .i32 a0_4)) (ds := []) zb1_Px5 (by kernel_rfl) rfl rfl ⟨(blk_cell BK146.out 0).trans rfl, (blk_cell BK146.out 1).trans rfl, (blk_cell BK146.out 2).trans rfl, (blk_cell BK146.out 3).trans rfl, (blk_cell BK146.out 4).trans rfl⟩ (fun hHeld => ?_); refine with_tabW isa_Text.tab9 isa_Text.bits9 (fun HT_ HW_ => ?_)
          generalize w22.drew = w24 at HO151 BK146 HB hHeld ⊢
          refine pure_ (i := 0) (N := some 30) (v := ?_) (a' := ?_) zb2_Px5 rfl rfl (any_of HT_.out (by kernel_rfl)) (fun _ _ _ h => h) (Or.inl ⟨by rfl, ?_⟩) ?_ ?_
          rotate_left
          · intro w'
            go_simp
            with_reducible rfl
          rotate_left
          · simp only [Act.put, List.setIfInBounds_toArray, List.set_cons_zero, List.set_cons_succ, i64_w, i32_w]
            rfl
          refine pure_ (i := 1) (N := some 31) (v := ?_) (a' := ?_) zb3_Px5 rfl rfl (any_of HT_.out (by kernel_rfl)) (fun _ _ _ h => h) (Or.inl ⟨by rfl, ?_⟩) ?_ ?_
          rotate_left
          · intro w'
            go_simp
            with_reducible rfl
          rotate_left
          · simp only [Act.put, List.setIfInBounds_toArray, List.set_cons_zero, List.set_cons_succ, i64_w, i32_w]
            rfl
          refine pure_ (i := 2) (N := some 32) (v := ?_) (a' := ?_) zb4_Px5 rfl rfl (any_of HT_.out (by kernel_rfl)) (fun _ _ _ h => h) (Or.inl ⟨by rfl, ?_⟩) ?_ ?_
          rotate_left
          · intro w'
            go_simp
            with_reducible rfl
          rotate_left
          · simp only [Act.put, List.setIfInBounds_toArray, List.set_cons_zero, List.set_cons_succ, i64_w, i32_w]
            rfl
          refine pure_ (i := 5) (N := some 35) (v := ?_) (a' := ?_) zb5_Px5 rfl rfl (any_of HT_.out (by kernel_rfl)) (fun _ _ _ h => h) (Or.inl ⟨by rfl, ?_⟩) ?_ ?_
          rotate_left
          · intro w'
            go_simp
            with_reducible rfl
          rotate_left
          · simp only [Act.put, List.setIfInBounds_toArray, List.set_cons_zero, List.set_cons_succ, i64_w, i32_w]
            rfl
          refine pure_ (i := 6) (N := some 36) (v := ?_) (a' := ?_) zb6_Px5 rfl rfl (any_of HT_.out (by kernel_rfl)) (fun _ _ _ h => h) (Or.inl ⟨by rfl, ?_⟩) ?_ ?_
          rotate_left
          · intro w'
            go_simp
            with_reducible rfl
          rotate_left
          · simp only [Act.put, List.setIfInBounds_toArray, List.set_cons_zero, List.set_cons_succ, i64_w, i32_w]
            rfl
          refine pure_ (i := 9) (N := some 39) (v := ?_) (a' := ?_) zb7_Px5 rfl rfl (any_of HT_.out (by kernel_rfl)) (fun _ _ _ h => h) (Or.inl ⟨by rfl, ?_⟩) ?_ ?_
          rotate_left
          · intro w'
            go_simp
            with_reducible rfl
          rotate_left
          · simp only [Act.put, List.setIfInBounds_toArray, List.set_cons_zero, List.set_cons_succ, i64_w, i32_w]
            rfl
          refine pure_ (i := 10) (N := some 40) (v := ?_) (a' := ?_) zb8_Px5 rfl rfl (any_of HT_.out (by kernel_rfl)) (fun _ _ _ h => h) (Or.inl ⟨by rfl, ?_⟩) ?_ ?_
          rotate_left
          · intro w'
            go_simp
            with_reducible rfl
          rotate_left
          · simp only [Act.put, List.setIfInBounds_toArray, List.set_cons_zero, List.set_cons_succ, i64_w, i32_w]
            rfl
          refine take_ (i := 3) (N := some 33) (v := ?_) (a' := ?_) zb9_Px5 rfl rfl (take_ofW HT_.out HW_.out (by kernel_rfl)) (fun _ _ _ h => h) (Or.inl ⟨by rfl, ?_⟩) hHeld ?_ ?_
          rotate_left
          · rintro w' ⟨s0, s1, s2, s3, s4⟩
            go_simp
            with_reducible rfl
          rotate_left
          · simp only [Act.put, List.setIfInBounds_toArray, List.set_cons_zero, List.set_cons_succ, i64_w, i32_w]
            rfl
          refine take_ (i := 7) (N := some 37) (v := ?_) (a' := ?_) zb10_Px5 rfl rfl (take_ofW HT_.out HW_.out (by kernel_rfl)) (fun _ _ _ h => h) (Or.inl ⟨by rfl, ?_⟩) hHeld ?_ ?_
          rotate_left
          · rintro w' ⟨s0, s1, s2, s3, s4⟩
            go_simp
            with_reducible rfl
          rotate_left
          · simp only [Act.put, List.setIfInBounds_toArray, List.set_cons_zero, List.set_cons_succ, i64_w, i32_w]
            rfl
          refine take_ (i := 11) (N := some 41) (v := ?_) (a' := ?_) zb11_Px5 rfl rfl (take_ofW HT_.out HW_.out (by kernel_rfl)) (fun _ _ _ h => h) (Or.inl ⟨by rfl, ?_⟩) hHeld ?_ ?_
          rotate_left
          · rintro w' ⟨s0, s1, s2, s3, s4⟩
            go_simp
            with_reducible rfl
          rotate_left
          · simp only [Act.put, List.setIfInBounds_toArray, List.set_cons_zero, List.set_cons_succ, i64_w, i32_w]
            rfl
          refine one_ (i := 4) (N := some 34) zb12_Px5 rfl rfl (one_of HT_.out (by kernel_rfl)) (by decide) (fun K hK => ?_)
          refine goesV_ Tryd.func26 (by kernel_rfl) rfl #[.int .u8 a0_1] (by rfl) rfl rfl rfl (by (try simp only [List.map_toArray, List.map_cons, List.map_nil]); first | done | rfl | (simp only [List.length_drop, List.length_take]; rfl)) ?_
          with_reducible refine (isa_Text_1.calls a0_1 t155 _ (hL.laid (by repeat (first | (with_reducible first | exact HB.out | apply below_alloc | apply pw_below_drewN | apply below_drew1 | refine below_set ?_ GE146.out) | exact HB.out))) A11.out).mono ?_
          rintro e w25 ⟨rfl, hb⟩
          refine ⟨_, rfl, ?_⟩
          have n0_ := Aside0.mk (Kd.R_below (by (with_reducible repeat (first | apply Kd.R_alloc | apply Kd.R_drewN | apply Kd.R_drew)); exact HO151.out) hb)
          have n1_ := Aside0.mk (blk_below (g := gb146) (o := .cells #[.int .u8 a0_0, .int .u8 a0_1, .int .u8 a0_2, .int .u8 a0_3, .int .i32 a0_4] 23 (0, 0)) (by (with_reducible repeat (first | refine blk_drewN ?_ _ | refine blk_drew ?_ | refine blk_alloc ?_ _)); exact BK146.out) hb)
          have n2_ := Aside0.mk (below_step (by repeat (first | (with_reducible first | exact HB.out | apply below_alloc | apply pw_below_drewN | apply below_drew1 | refine below_set ?_ GE146.out) | exact HB.out)) hb)
          clear HO151
          clear BK146
          clear HB
          have HO151 := n0_
          have BK146 := n1_
          have HB := n2_
          clear n0_ n1_ n2_
          (try clear hb)
          (try clear hb2)
          (try clear hk)
          (try clear hi)
          refine hK.out _ _ ⟨(blk_cell BK146.out 0).trans rfl, (blk_cell BK146.out 1).trans rfl, (blk_cell BK146.out 2).trans rfl, (blk_cell BK146.out 3).trans rfl, (blk_cell BK146.out 4).trans rfl⟩ (fun hHeld => ?_)
          clear hK K
          refine norm_ (a' := ?_) ?_ ?_
          rotate_left
          · show Act.put _ (some 34) _ = _
            simp only [Act.put, List.setIfInBounds_toArray, List.set_cons_zero, List.set_cons_succ, i64_w, i32_w]
            rfl
          refine one_ (i := 8) (N := some 38) zb13_Px5 rfl rfl (one_of HT_.out (by kernel_rfl)) (by decide) (fun K hK => ?_)
          refine goesV_ Tryd.func26 (by kernel_rfl) rfl #[.int .u8 a0_2] (by rfl) rfl rfl rfl (by (try simp only [List.map_toArray, List.map_cons, List.map_nil]); first | done | rfl | (simp only [List.length_drop, List.length_take]; rfl)) ?_
          with_reducible refine (isa_Text_1.calls a0_2 t156 _ (hL.laid (by repeat (first | (with_reducible first | exact HB.out | apply below_alloc | apply pw_below_drewN | apply below_drew1 | refine below_set ?_ GE146.out) | exact HB.out))) A12.out).mono ?_
          rintro e w26 ⟨rfl, hb⟩
          refine ⟨_, rfl, ?_⟩
          have n0_ := Aside0.mk (Kd.R_below (by (with_reducible repeat (first | apply Kd.R_alloc | apply Kd.R_drewN | apply Kd.R_drew)); exact HO151.out) hb)
          have n1_ := Aside0.mk (blk_below (g := gb146) (o := .cells #[.int .u8 a0_0, .int .u8 a0_1, .int .u8 a0_2, .int .u8 a0_3, .int .i32 a0_4] 23 (0, 0)) (by (with_reducible repeat (first | refine blk_drewN ?_ _ | refine blk_drew ?_ | refine blk_alloc ?_ _)); exact BK146.out) hb)
          have n2_ := Aside0.mk (below_step (by repeat (first | (with_reducible first | exact HB.out | apply below_alloc | apply pw_below_drewN | apply below_drew1 | refine below_set ?_ GE146.out) | exact HB.out)) hb)
          clear HO151
          clear BK146
          clear HB
          have HO151 := n0_
          have BK146 := n1_
          have HB := n2_
          clear n0_ n1_ n2_
          (try clear hb)
          (try clear hb2)
          (try clear hk)
          (try clear hi)
          refine hK.out _ _ ⟨(blk_cell BK146.out 0).trans rfl, (blk_cell BK146.out 1).trans rfl, (blk_cell BK146.out 2).trans rfl, (blk_cell BK146.out 3).trans rfl, (blk_cell BK146.out 4).trans rfl⟩ (fun hHeld => ?_)
          clear hK K
          refine norm_ (a' := ?_) ?_ ?_
          rotate_left
          · show Act.put _ (some 38) _ = _
            simp only [Act.put, List.setIfInBounds_toArray, List.set_cons_zero, List.set_cons_succ, i64_w, i32_w]
            rfl
          refine one_ (i := 12) (N := some 42) zb14_Px5 rfl rfl (one_of HT_.out (by kernel_rfl)) (by decide) (fun K hK => ?_)
          refine goesV_ Tryd.func26 (by kernel_rfl) rfl #[.int .u8 a0_3] (by rfl) rfl rfl rfl (by (try simp only [List.map_toArray, List.map_cons, List.map_nil]); first | done | rfl | (simp only [List.length_drop, List.length_take]; rfl)) ?_
          with_reducible refine (isa_Text_1.calls a0_3 t157 _ (hL.laid (by repeat (first | (with_reducible first | exact HB.out | apply below_alloc | apply pw_below_drewN | apply below_drew1 | refine below_set ?_ GE146.out) | exact HB.out))) A13.out).mono ?_
          rintro e w27 ⟨rfl, hb⟩
          refine ⟨_, rfl, ?_⟩
          have n0_ := Aside0.mk (Kd.R_below (by (with_reducible repeat (first | apply Kd.R_alloc | apply Kd.R_drewN | apply Kd.R_drew)); exact HO151.out) hb)
          have n1_ := Aside0.mk (blk_below (g := gb146) (o := .cells #[.int .u8 a0_0, .int .u8 a0_1, .int .u8 a0_2, .int .u8 a0_3, .int .i32 a0_4] 23 (0, 0)) (by (with_reducible repeat (first | refine blk_drewN ?_ _ | refine blk_drew ?_ | refine blk_alloc ?_ _)); exact BK146.out) hb)
          have n2_ := Aside0.mk (below_step (by repeat (first | (with_reducible first | exact HB.out | apply below_alloc | apply pw_below_drewN | apply below_drew1 | refine below_set ?_ GE146.out) | exact HB.out)) hb)
          clear HO151
          clear BK146
          clear HB
          have HO151 := n0_
          have BK146 := n1_
          have HB := n2_
          clear n0_ n1_ n2_
          (try clear hb)
          (try clear hb2)
          (try clear hk)
          (try clear hi)
          refine hK.out _ _ ⟨(blk_cell BK146.out 0).trans rfl, (blk_cell BK146.out 1).trans rfl, (blk_cell BK146.out 2).trans rfl, (blk_cell BK146.out 3).trans rfl, (blk_cell BK146.out 4).trans rfl⟩ (fun hHeld => ?_)
          clear hK K
          refine norm_ (a' := ?_) ?_ ?_
          rotate_left
          · show Act.put _ (some 42) _ = _
            simp only [Act.put, List.setIfInBounds_toArray, List.set_cons_zero, List.set_cons_succ, i64_w, i32_w]
            rfl
          refine one_ (i := 13) (N := some 43) zb15_Px5 rfl rfl (one_of HT_.out (by kernel_rfl)) (by decide) (fun K hK => ?_)
          refine Kd.R_lit_step Kd.string _ 9 ?hg (N := 43) ?hd (xs := ([t155, t156, t157] : List ByteArray)) (inner := [.string t155, .string t156, .string t157]) (ok := fun _ => True) (okp := fun _ => True) ?hr ?hp (fun _ hk => hk) trivial (Below.refl _ _) (Nat.le_refl _) (by simp) ?_; (case hd => rfl); (case hg => rfl); (case hr => first | (go_simp; done) | (go_simp; rfl)); (case hp => exact (Reps.one (show Kd.M Kd.string _ _ _ t155 [.string t155] from rfl) (Reps.one (show Kd.M Kd.string _ _ _ t156 [.string t156] from rfl) (Reps.one (show Kd.M Kd.string _ _ _ t157 [.string t157] from rfl) (Reps.none _ _)))))
          intro v159 w28 ho29 hb hg_ hnew_
          clear hg_ hnew_
          (first | rw [← Ny158.out] at ho29 | (simp only [Int.reduceToNat] at ho29; rw [← Ny158.out] at ho29))
          have n0_ := Aside0.mk (Kd.R_elder' (by (with_reducible repeat (first | apply Kd.R_alloc | apply Kd.R_drewN | apply Kd.R_drew)); exact HO151.out) (Kd.R_base ho29) hb)
          have n1_ := Aside0.mk (Kd.R_lower (Kd.R_new' ho29 (Kd.R_lt (by (with_reducible repeat (first | apply Kd.R_alloc | apply Kd.R_drewN | apply Kd.R_drew)); exact HO151.out))) (below_size (by repeat (first | (with_reducible first | exact HB.out | apply below_alloc | apply pw_below_drewN | apply below_drew1 | refine below_set ?_ GE146.out) | exact HB.out))))
          have n2_ := Aside0.mk (blk_below (g := gb146) (o := .cells #[.int .u8 a0_0, .int .u8 a0_1, .int .u8 a0_2, .int .u8 a0_3, .int .i32 a0_4] 23 (0, 0)) (by (with_reducible repeat (first | refine blk_drewN ?_ _ | refine blk_drew ?_ | refine blk_alloc ?_ _)); exact BK146.out) hb)
          have n3_ := Aside0.mk (below_step (by repeat (first | (with_reducible first | exact HB.out | apply below_alloc | apply pw_below_drewN | apply below_drew1 | refine below_set ?_ GE146.out) | exact HB.out)) hb)
          clear HO151
          clear BK146
          clear HB
          have HO151 := n0_
          have HO160 := n1_
          have BK146 := n2_
          have HB := n3_
          clear n0_ n1_ n2_ n3_
          clear hb ho29
          obtain ⟨Ao30, co30, eo30⟩ := Kd.R_slice HO160.out
          (first | subst eo30 | (injection eo30 with f1_ f2_ f3_; have f4_ := f1_.symm; have f5_ := f3_.symm; clear f1_ f2_ f3_; subst f4_; subst f5_))
          refine hK.out _ _ ⟨(blk_cell BK146.out 0).trans rfl, (blk_cell BK146.out 1).trans rfl, (blk_cell BK146.out 2).trans rfl, (blk_cell BK146.out 3).trans rfl, (blk_cell BK146.out 4).trans rfl⟩ (fun hHeld => ?_)
          clear hK K
          refine norm_ (a' := ?_) ?_ ?_
          rotate_left
          · show Act.put _ (some 43) _ = _
            simp only [Act.put, List.setIfInBounds_toArray, List.set_cons_zero, List.set_cons_succ, i64_w, i32_w]
            rfl
          refine one_ (i := 14) (N := some 44) zb16_Px5 rfl rfl (one_of HT_.out (by kernel_rfl)) (by decide) (fun K hK => ?_)
          refine goes_ Tryd.func28 (by kernel_rfl) rfl #[.string (rdOf ByteArray.empty t149 (ji5)), .slice Ao30 y158.length co30] (by rfl) rfl rfl (by (try simp only [List.map_toArray, List.map_cons, List.map_nil]); first | done | (simp only [hji5]; rfl) | rfl | (simp only [List.length_drop, List.length_take]; rfl)) ?_
          with_reducible refine (isa_line.calls (rdOf ByteArray.empty t149 (ji5)) _ _ y158 t161 _ ?side1 ?side2 A14.out).mono ?_
          (case side1 => repeat (first | exact (Kd.R_reads' HO160.out).2.2 | (with_reducible refine Kd.C_alloc ?_ _) | (with_reducible refine Kd.C_drewN ?_ _) | (with_reducible refine Kd.C_drew ?_)))
          (case side2 => exact (Kd.R_reads' HO160.out).2.1)
          rintro e w31 ⟨rfl, hb⟩
          refine ⟨_, rfl, ?_⟩
          have n0_ := Aside0.mk (Kd.R_below (by (with_reducible repeat (first | apply Kd.R_alloc | apply Kd.R_drewN | apply Kd.R_drew)); exact HO151.out) hb)
          have n1_ := Aside0.mk (Kd.R_below (by (with_reducible repeat (first | apply Kd.R_alloc | apply Kd.R_drewN | apply Kd.R_drew)); exact HO160.out) hb)
          have n2_ := Aside0.mk (blk_below (g := gb146) (o := .cells #[.int .u8 a0_0, .int .u8 a0_1, .int .u8 a0_2, .int .u8 a0_3, .int .i32 a0_4] 23 (0, 0)) (by (with_reducible repeat (first | refine blk_drewN ?_ _ | refine blk_drew ?_ | refine blk_alloc ?_ _)); exact BK146.out) hb)
          have n3_ := Aside0.mk (below_step (by repeat (first | (with_reducible first | exact HB.out | apply below_alloc | apply pw_below_drewN | apply below_drew1 | refine below_set ?_ GE146.out) | exact HB.out)) hb)
          clear HO151
          clear HO160
          clear BK146
          clear HB
          have HO151 := n0_
          have HO160 := n1_
          have BK146 := n2_
          have HB := n3_
          clear n0_ n1_ n2_ n3_
          (try clear hb)
          (try clear hb2)
          (try clear hk)
          (try clear hi)
          refine hK.out _ _ ⟨(blk_cell BK146.out 0).trans rfl, (blk_cell BK146.out 1).trans rfl, (blk_cell BK146.out 2).trans rfl, (blk_cell BK146.out 3).trans rfl, (blk_cell BK146.out 4).trans rfl⟩ (fun hHeld => ?_)
          clear hK K
          refine norm_ (a' := ?_) ?_ ?_
          rotate_left
          · show Act.put _ (some 44) _ = _
            simp only [Act.put, List.setIfInBounds_toArray, List.set_cons_zero, List.set_cons_succ, i64_w, i32_w]
            rfl
          refine pure_ (i := 15) (N := some 2) (v := ?_) (a' := ?_) zb17_Px5 rfl rfl (any_of HT_.out (by kernel_rfl)) (fun _ _ _ h => h) (Or.inl ⟨by rfl, ?_⟩) ?_ ?_
          rotate_left
          · intro w'
            go_simp
            with_reducible rfl
          rotate_left
          · simp only [Act.put, List.setIfInBounds_toArray, List.set_cons_zero, List.set_cons_succ, i64_w, i32_w]
            rfl
          refine done_ (done_of HT_.out (by kernel_rfl)) ?_
          try go_wp2
          go_ret
          exact ⟨by first | rfl | (simp [errW_none, errW_some] <;> rfl) | (simp only [← hji5]; first | rfl | (simp [errW_none, errW_some] <;> rfl)) | (simp [*, errW_none, errW_some] <;> rfl), by repeat (first | (with_reducible first | exact HB.out | apply below_alloc | apply pw_below_drewN | apply below_drew1 | refine below_set ?_ GE146.out) | exact HB.out)⟩
        · rw [if_neg c10] at H
          have c10b0 : (t154 == 114) = false := beq_eq_false_iff_ne.mpr c10
          have c10b1 : (t154 != 114) = true := bne_iff_ne.mpr c10
          by_cases c32 : t154 = 105
          · rw [if_pos c32] at H
            have c32b0 : (t154 == 105) = true := beq_iff_eq.mpr c32
            have c32b1 : (t154 != 105) = false := bne_eq_false_iff_eq.mpr c32
            clear c32
            replace H := Option.bind_eq_some_iff.mp H
            obtain ⟨t162, A330, H⟩ := H
            replace H : ((isa_Text_1.f a0_2).bind fun t163 => ((isa_line.f (rdOf ByteArray.empty t149 (ji5)) (([t162, t163, t153] : List ByteArray))).bind fun t167 => (some t167))) = some r := H
            have A33 := Aside0.mk A330
            clear A330
            replace H := Option.bind_eq_some_iff.mp H
            obtain ⟨t163, A340, H⟩ := H
            replace H : ((isa_line.f (rdOf ByteArray.empty t149 (ji5)) (([t162, t163, t153] : List ByteArray))).bind fun t167 => (some t167)) = some r := H
            have A34 := Aside0.mk A340
            clear A340
            obtain ⟨y164, hy164⟩ : ∃ y_ : List ByteArray, y_ = (([t162, t163, t153] : List ByteArray)) := ⟨_, rfl⟩
            replace H : ((isa_line.f (rdOf ByteArray.empty t149 (ji5)) y164).bind fun t167 => (some t167)) = some r := by first | (rw [hy164]; with_reducible exact H) | (have H2_ := (Option.bind_some _ _).symm.trans H; rw [hy164]; with_reducible exact H2_) | (have H2_ := (Option.bind_some _ _).symm.trans H; with_reducible exact H2_) | with_reducible exact H | (rw [hy164]; exact H) | exact H
            have Ny164 := Aside0.mk hy164
            clear hy164
            replace H := Option.bind_eq_some_iff.mp H
            obtain ⟨t167, A350, H⟩ := H
            replace H : (some t167) = some r := H
            have A35 := Aside0.mk A350
            clear A350
            obtain rfl := Option.some.inj H
            go_enter Tryd.func15, Tryd.ntmps15
            try go_wp2_with (first | ((with_reducible refine gate_dst (N := 1) rfl ?_); refine box_event ?hg (N := 1) ?hd (cs := #[.int .u8 a0_0, .int .u8 a0_1, .int .u8 a0_2, .int .u8 a0_3, .int .i32 a0_4]) (t := 23) ?hr ?_; (case hd => rfl); (case hg => rfl); (case hr => first | (go_simp; done) | (go_simp; rfl)); intro gb146 hg w36 hbox hb; have n0_ := Aside0.mk (below_step (by repeat (first | (with_reducible first | exact HB.out | apply below_alloc | apply pw_below_drewN | apply below_drew1) | exact HB.out)) hb); have n1_ := Aside0.mk (hbox); have n2_ := Aside0.mk ((by rw [hg]; exact (below_size (by repeat (first | (with_reducible first | exact HB.out | apply below_alloc | apply pw_below_drewN | apply below_drew1) | exact HB.out))) : w.heap.size ≤ gb146)); have n3_ := Aside0.mk ((by rw [hg]; exact (below_size (by repeat (first | (with_reducible first | exact HB.out | apply below_alloc | apply pw_below_drewN | apply below_drew1) | exact HB.out))) : w.heap.size ≤ gb146)); clear HB; have HB := n0_; have BK146 := n1_; have GW146 := n2_; have GE146 := n3_; clear n0_ n1_ n2_ n3_; clear hb hbox hg; have hcz37_0 : w36.cell? ⟨gb146, 0, none⟩ = some (.int .u8 a0_0) := (blk_cell BK146.out 0).trans rfl; have hcz37_1 : w36.cell? ⟨gb146, 1, none⟩ = some (.int .u8 a0_1) := (blk_cell BK146.out 1).trans rfl; have hcz37_2 : w36.cell? ⟨gb146, 2, none⟩ = some (.int .u8 a0_2) := (blk_cell BK146.out 2).trans rfl; have hcz37_3 : w36.cell? ⟨gb146, 3, none⟩ = some (.int .u8 a0_3) := (blk_cell BK146.out 3).trans rfl; have hcz37_4 : w36.cell? ⟨gb146, 4, none⟩ = some (.int .i32 a0_4) := (blk_cell BK146.out 4).trans rfl; have hfz37_0 := blk_frozen BK146.out 0; have hfz37_1 := blk_frozen BK146.out 1; have hfz37_2 := blk_frozen BK146.out 2; have hfz37_3 := blk_frozen BK146.out 3; have hfz37_4 := blk_frozen BK146.out 4) | ((with_reducible refine gate_callee (f := 11) rfl ?_); refine goesL_ (some 10) rfl rfl Tryd.func11 (by kernel_rfl) rfl #[.agg #[.int .u8 a0_0, .int .u8 a0_1, .int .u8 a0_2, .int .u8 a0_3, .int .i32 a0_4]] rfl (by (try simp only [List.map_toArray, List.map_cons, List.map_nil]); first | done | rfl | (simp only [List.length_drop, List.length_take]; rfl)) ?_; (with_reducible refine (isa_Enc.calls k a0_0 a0_1 a0_2 a0_3 a0_4 t147 t148 _ A2.out).mono ?_); rintro e w38 ⟨rfl, hb⟩; refine ⟨_, rfl, ?_⟩; have n0_ := Aside0.mk (blk_below (g := gb146) (o := .cells #[.int .u8 a0_0, .int .u8 a0_1, .int .u8 a0_2, .int .u8 a0_3, .int .i32 a0_4] 23 (0, 0)) (by (with_reducible repeat (first | refine blk_drewN ?_ _ | refine blk_drew ?_ | refine blk_alloc ?_ _)); exact BK146.out) hb); have n1_ := Aside0.mk (below_step (by repeat (first | (with_reducible first | exact HB.out | apply below_alloc | apply pw_below_drewN | apply below_drew1 | refine below_set ?_ GE146.out) | exact HB.out)) hb); clear BK146; clear HB; have BK146 := n0_; have HB := n1_; clear n0_ n1_; (try clear hb); (try clear hb2); (try clear hk); (try clear hi)))
            have n0_ := Aside0.mk (blk_drew BK146.out)
            have n1_ := Aside0.mk (below_drew1 HB.out)
            clear BK146
            clear HB
            have BK146 := n0_
            have HB := n1_
            clear n0_ n1_
            refine start_ (n := 7) (S := fun w' => w'.cell? ⟨gb146, 0, none⟩ = some (.int .u8 a0_0) ∧ w'.cell? ⟨gb146, 1, none⟩ = some (.int .u8 a0_1) ∧ w'.cell? ⟨gb146, 2, none⟩ = some (.int .u8 a0_2) ∧ w'.cell? ⟨gb146, 3, none⟩ = some (.int .u8 a0_3) ∧ w'.cell? ⟨gb146, 4, none⟩ = some (.int .i32 a0_4)) (ds := []) #[false, false, false, false, false, false, false] (by kernel_rfl) rfl rfl ⟨(blk_cell BK146.out 0).trans rfl, (blk_cell BK146.out 1).trans rfl, (blk_cell BK146.out 2).trans rfl, (blk_cell BK146.out 3).trans rfl, (blk_cell BK146.out 4).trans rfl⟩ (fun hHeld => ?_)
            generalize w38.drew = w39 at BK146 HB hHeld ⊢
            refine pure_ (i := 1) (N := some 16) (v := ?_) (a' := ?_) #[false, true, false, false, false, false, false] rfl rfl (by kernel_rfl) (fun _ _ _ h => h) (Or.inl ⟨by rfl, ?_⟩) ?_ ?_
            rotate_left
            · intro w'
              go_simp
              with_reducible rfl
            rotate_left
            · simp only [Act.put, List.setIfInBounds_toArray, List.set_cons_zero, List.set_cons_succ, i64_w, i32_w]
              rfl
            refine take_ (i := 2) (N := some 17) (v := ?_) (a' := ?_) #[false, true, true, false, false, false, false] rfl rfl (by kernel_rfl) (fun _ _ _ h => h) (Or.inl ⟨by rfl, ?_⟩) hHeld ?_ ?_
            rotate_left
            · rintro w' ⟨s0, s1, s2, s3, s4⟩
              go_simp
              with_reducible rfl
            rotate_left
            · simp only [Act.put, List.setIfInBounds_toArray, List.set_cons_zero, List.set_cons_succ, i64_w, i32_w]
              rfl
            refine pure_ (i := 3) (N := some 18) (v := ?_) (a' := ?_) #[false, true, true, true, false, false, false] rfl rfl (by kernel_rfl) (fun _ _ _ h => h) (Or.inl ⟨by rfl, ?_⟩) ?_ ?_
            rotate_left
            · intro w'
              go_simp
              with_reducible rfl
            rotate_left
            · simp only [Act.put, List.setIfInBounds_toArray, List.set_cons_zero, List.set_cons_succ, i64_w, i32_w]
              rfl
            refine one_ (i := 0) (N := some 15) #[true, true, true, true, false, false, false] rfl rfl (by kernel_rfl) (by decide) (fun K hK => ?_)
            refine goes_ Tryd.func25 (by kernel_rfl) rfl #[.string (⟨#[97, 100, 100, 32, 115, 117, 98, 32, 109, 117, 108, 32, 100, 105, 118, 32, 114, 101, 109, 32, 97, 110, 100, 32, 111, 114, 32, 120, 111, 114, 32, 115, 104, 108, 32, 115, 104, 114, 32, 115, 97, 114, 32, 115, 108, 116, 32, 115, 108, 116, 117, 32, 97, 100, 100, 105, 32, 97, 110, 100, 105, 32, 111, 114, 105, 32, 120, 111, 114, 105, 32, 115, 108, 116, 105, 32, 108, 117, 105, 32, 108, 119, 32, 108, 98, 32, 108, 98, 117, 32, 115, 119, 32, 115, 98, 32, 98, 101, 113, 32, 98, 110, 101, 32, 98, 108, 116, 32, 98, 108, 116, 117, 32, 106, 97, 108, 32, 106, 97, 108, 114, 32, 115, 121, 115]⟩ : ByteArray), .string (⟨#[32]⟩ : ByteArray)] (by rfl) rfl rfl (by (try simp only [List.map_toArray, List.map_cons, List.map_nil]); first | done | rfl | (simp only [List.length_drop, List.length_take]; rfl)) ?_
            with_reducible refine (strings_Split.calls (⟨#[97, 100, 100, 32, 115, 117, 98, 32, 109, 117, 108, 32, 100, 105, 118, 32, 114, 101, 109, 32, 97, 110, 100, 32, 111, 114, 32, 120, 111, 114, 32, 115, 104, 108, 32, 115, 104, 114, 32, 115, 97, 114, 32, 115, 108, 116, 32, 115, 108, 116, 117, 32, 97, 100, 100, 105, 32, 97, 110, 100, 105, 32, 111, 114, 105, 32, 120, 111, 114, 105, 32, 115, 108, 116, 105, 32, 108, 117, 105, 32, 108, 119, 32, 108, 98, 32, 108, 98, 117, 32, 115, 119, 32, 115, 98, 32, 98, 101, 113, 32, 98, 110, 101, 32, 98, 108, 116, 32, 98, 108, 116, 117, 32, 106, 97, 108, 32, 106, 97, 108, 114, 32, 115, 121, 115]⟩ : ByteArray) (⟨#[32]⟩ : ByteArray) t149 _ (hL.laid (by repeat (first | (with_reducible first | exact HB.out | apply below_alloc | apply pw_below_drewN | apply below_drew1 | refine below_set ?_ GE146.out) | exact HB.out))) A4.out).mono ?_
            rintro e w40 ⟨v150, rfl, ho0, hb⟩
            refine ⟨_, rfl, ?_⟩
            have n0_ := Aside0.mk (Kd.R_lower ho0 (below_size (by repeat (first | (with_reducible first | exact HB.out | apply below_alloc | apply pw_below_drewN | apply below_drew1 | refine below_set ?_ GE146.out) | exact HB.out))))
            have n1_ := Aside0.mk (blk_below (g := gb146) (o := .cells #[.int .u8 a0_0, .int .u8 a0_1, .int .u8 a0_2, .int .u8 a0_3, .int .i32 a0_4] 23 (0, 0)) (by (with_reducible repeat (first | refine blk_drewN ?_ _ | refine blk_drew ?_ | refine blk_alloc ?_ _)); exact BK146.out) hb)
            have n2_ := Aside0.mk (below_step (by repeat (first | (with_reducible first | exact HB.out | apply below_alloc | apply pw_below_drewN | apply below_drew1 | refine below_set ?_ GE146.out) | exact HB.out)) hb)
            clear BK146
            clear HB
            have HO151 := n0_
            have BK146 := n1_
            have HB := n2_
            clear n0_ n1_ n2_
            (try clear hb)
            (try clear hb2)
            (try clear hk)
            (try clear hi)
            (try clear ho0)
            obtain ⟨Ao41, co41, eo41⟩ := Kd.R_slice HO151.out
            (first | subst eo41 | (injection eo41 with f1_ f2_ f3_; have f4_ := f1_.symm; have f5_ := f3_.symm; clear f1_ f2_ f3_; subst f4_; subst f5_))
            have p152 : 0 ≤ ((ji5) : Int) := of_decide_eq_true (by first | (with_reducible assumption) | assumption)
            have q152 : (ji5) < (t149.length : Int) := of_decide_eq_true (by first | (with_reducible assumption) | assumption)
            obtain ⟨ad152, e152, hx152_0⟩ := Kd.at_string (Kd.R_reads' HO151.out).2.2 (ji5) p152 q152
            cases e152
            replace p152 := eq_true p152
            replace q152 := eq_true q152
            refine hK.out _ _ ⟨(blk_cell BK146.out 0).trans rfl, (blk_cell BK146.out 1).trans rfl, (blk_cell BK146.out 2).trans rfl, (blk_cell BK146.out 3).trans rfl, (blk_cell BK146.out 4).trans rfl⟩ (fun hHeld => ?_)
            clear hK K
            refine norm_ (a' := ?_) ?_ ?_
            rotate_left
            · show Act.put _ (some 15) _ = _
              simp only [Act.put, List.setIfInBounds_toArray, List.set_cons_zero, List.set_cons_succ, i64_w, i32_w]
              rfl
            refine pure_ (i := 4) (N := some 19) (v := ?_) (a' := ?_) #[true, true, true, true, true, false, false] rfl rfl (by kernel_rfl) (fun _ _ _ h => h) (Or.inl ⟨by rfl, ?_⟩) ?_ ?_
            rotate_left
            · intro w'
              go_simp
              with_reducible rfl
            rotate_left
            · simp only [Act.put, List.setIfInBounds_toArray, List.set_cons_zero, List.set_cons_succ, i64_w, i32_w]
              rfl
            refine one_ (i := 5) (N := some 20) #[true, true, true, true, true, true, false] rfl rfl (by kernel_rfl) (by decide) (fun K hK => ?_)
            go_wp2
            refine hK.out _ _ ⟨(blk_cell BK146.out 0).trans rfl, (blk_cell BK146.out 1).trans rfl, (blk_cell BK146.out 2).trans rfl, (blk_cell BK146.out 3).trans rfl, (blk_cell BK146.out 4).trans rfl⟩ (fun hHeld => ?_)
            clear hK K
            refine pure_ (i := 6) (N := some 5) (v := ?_) (a' := ?_) #[true, true, true, true, true, true, true] rfl rfl (by kernel_rfl) (fun _ _ _ h => h) (Or.inl ⟨by rfl, ?_⟩) ?_ ?_
            rotate_left
            · intro w'
              go_simp
              with_reducible rfl
            rotate_left
            · simp only [Act.put, List.setIfInBounds_toArray, List.set_cons_zero, List.set_cons_succ, i64_w, i32_w]
              rfl
            refine done_ (by kernel_rfl) ?_
            have hcz42_0 : w40.cell? ⟨gb146, 0, none⟩ = some (.int .u8 a0_0) := (blk_cell BK146.out 0).trans rfl
            have hcz42_1 : w40.cell? ⟨gb146, 1, none⟩ = some (.int .u8 a0_1) := (blk_cell BK146.out 1).trans rfl
            have hcz42_2 : w40.cell? ⟨gb146, 2, none⟩ = some (.int .u8 a0_2) := (blk_cell BK146.out 2).trans rfl
            have hcz42_3 : w40.cell? ⟨gb146, 3, none⟩ = some (.int .u8 a0_3) := (blk_cell BK146.out 3).trans rfl
            have hcz42_4 : w40.cell? ⟨gb146, 4, none⟩ = some (.int .i32 a0_4) := (blk_cell BK146.out 4).trans rfl
            have hfz42_0 := blk_frozen BK146.out 0
            have hfz42_1 := blk_frozen BK146.out 1
            have hfz42_2 := blk_frozen BK146.out 2
            have hfz42_3 := blk_frozen BK146.out 3
            have hfz42_4 := blk_frozen BK146.out 4
            try go_wp2_with (first | ((with_reducible refine gate_callee (f := 27) rfl ?_); refine goesL_ (some 24) rfl rfl Tryd.func27 (by kernel_rfl) rfl #[.int .i64 (wrap64 (a0_4))] rfl (by (try simp only [List.map_toArray, List.map_cons, List.map_nil]); first | done | rfl | (simp only [List.length_drop, List.length_take]; rfl)) ?_; (with_reducible refine (strconv_Itoa_27.calls (wrap64 (a0_4)) t153 _ (hL.laid (by repeat (first | (with_reducible first | exact HB.out | apply below_alloc | apply pw_below_drewN | apply below_drew1 | refine below_set ?_ GE146.out) | exact HB.out))) A8.out).mono ?_); rintro e w43 ⟨rfl, hb⟩; refine ⟨_, rfl, ?_⟩; have n0_ := Aside0.mk (Kd.R_below (by (with_reducible repeat (first | apply Kd.R_alloc | apply Kd.R_drewN | apply Kd.R_drew)); exact HO151.out) hb); have n1_ := Aside0.mk (blk_below (g := gb146) (o := .cells #[.int .u8 a0_0, .int .u8 a0_1, .int .u8 a0_2, .int .u8 a0_3, .int .i32 a0_4] 23 (0, 0)) (by (with_reducible repeat (first | refine blk_drewN ?_ _ | refine blk_drew ?_ | refine blk_alloc ?_ _)); exact BK146.out) hb); have n2_ := Aside0.mk (below_step (by repeat (first | (with_reducible first | exact HB.out | apply below_alloc | apply pw_below_drewN | apply below_drew1 | refine below_set ?_ GE146.out) | exact HB.out)) hb); clear HO151; clear BK146; clear HB; have HO151 := n0_; have BK146 := n1_; have HB := n2_; clear n0_ n1_ n2_; (try clear hb); (try clear hb2); (try clear hk); (try clear hi); have hcz44_0 : w43.cell? ⟨gb146, 0, none⟩ = some (.int .u8 a0_0) := (blk_cell BK146.out 0).trans rfl; have hcz44_1 : w43.cell? ⟨gb146, 1, none⟩ = some (.int .u8 a0_1) := (blk_cell BK146.out 1).trans rfl; have hcz44_2 : w43.cell? ⟨gb146, 2, none⟩ = some (.int .u8 a0_2) := (blk_cell BK146.out 2).trans rfl; have hcz44_3 : w43.cell? ⟨gb146, 3, none⟩ = some (.int .u8 a0_3) := (blk_cell BK146.out 3).trans rfl; have hcz44_4 : w43.cell? ⟨gb146, 4, none⟩ = some (.int .i32 a0_4) := (blk_cell BK146.out 4).trans rfl; have hfz44_0 := blk_frozen BK146.out 0; have hfz44_1 := blk_frozen BK146.out 1; have hfz44_2 := blk_frozen BK146.out 2; have hfz44_3 := blk_frozen BK146.out 3; have hfz44_4 := blk_frozen BK146.out 4) | ((with_reducible refine gate_callee (f := 19) rfl ?_); refine goesL_ (some 27) rfl rfl Tryd.func19 (by kernel_rfl) rfl #[.int .u8 a0_0] rfl (by (try simp only [List.map_toArray, List.map_cons, List.map_nil]); first | done | rfl | (simp only [List.length_drop, List.length_take]; rfl)) ?_; (with_reducible refine (isa_form.calls a0_0 t154 _ A9.out).mono ?_); rintro e w' ⟨rfl, ⟨nd, rfl⟩⟩; refine ⟨_, rfl, ?_⟩))
            (try (rw [drewN_self w43]; generalize hq_ : World.drewN w43 _ = w43; have n0_ : Aside0 (Kd.R Kd.string 9 w43 w.heap.size (fun _ => True) (.slice (some ad152) t149.length co41) t149) := ⟨by rw [← hq_]; exact (by (with_reducible repeat (first | apply Kd.R_alloc | apply Kd.R_drewN | apply Kd.R_drew)); exact HO151.out)⟩; have n1_ : Aside0 (w43.heap[gb146]? = some (.cells #[.int .u8 a0_0, .int .u8 a0_1, .int .u8 a0_2, .int .u8 a0_3, .int .i32 a0_4] 23 (0, 0))) := ⟨by rw [← hq_]; exact (by (with_reducible repeat (first | refine blk_drewN ?_ _ | refine blk_drew ?_ | refine blk_alloc ?_ _)); exact BK146.out)⟩; have n2_ : Aside0 (Below w.heap.size w w43) := ⟨by rw [← hq_]; exact (by repeat (first | (with_reducible first | exact HB.out | apply below_alloc | apply pw_below_drewN | apply below_drew1 | refine below_set ?_ GE146.out) | exact HB.out))⟩; clear HO151 BK146 HB hq_; have HO151 := n0_; have BK146 := n1_; have HB := n2_; clear n0_ n1_ n2_))
            have n0_ := Aside0.mk (Kd.R_drew HO151.out)
            have n1_ := Aside0.mk (blk_drew BK146.out)
            have n2_ := Aside0.mk (below_drew1 HB.out)
            clear HO151
            clear BK146
            clear HB
            have HO151 := n0_
            have BK146 := n1_
            have HB := n2_
            clear n0_ n1_ n2_
            refine start_ (n := 13) (S := fun w' => w'.cell? ⟨gb146, 0, none⟩ = some (.int .u8 a0_0) ∧ w'.cell? ⟨gb146, 1, none⟩ = some (.int .u8 a0_1) ∧ w'.cell? ⟨gb146, 2, none⟩ = some (.int .u8 a0_2) ∧ w'.cell? ⟨gb146, 3, none⟩ = some (.int .u8 a0_3) ∧ w'.cell? ⟨gb146, 4, none⟩ = some (.int .i32 a0_4)) (ds := []) zb18_Px5 (by kernel_rfl) rfl rfl ⟨(blk_cell BK146.out 0).trans rfl, (blk_cell BK146.out 1).trans rfl, (blk_cell BK146.out 2).trans rfl, (blk_cell BK146.out 3).trans rfl, (blk_cell BK146.out 4).trans rfl⟩ (fun hHeld => ?_); refine with_tabW isa_Text.tab11 isa_Text.bits11 (fun HT_ HW_ => ?_)
            generalize w43.drew = w45 at HO151 BK146 HB hHeld ⊢
            refine pure_ (i := 0) (N := some 47) (v := ?_) (a' := ?_) zb19_Px5 rfl rfl (any_of HT_.out (by kernel_rfl)) (fun _ _ _ h => h) (Or.inl ⟨by rfl, ?_⟩) ?_ ?_
            rotate_left
            · intro w'
              go_simp
              with_reducible rfl
            rotate_left
            · simp only [Act.put, List.setIfInBounds_toArray, List.set_cons_zero, List.set_cons_succ, i64_w, i32_w]
              rfl
            refine pure_ (i := 1) (N := some 48) (v := ?_) (a' := ?_) zb20_Px5 rfl rfl (any_of HT_.out (by kernel_rfl)) (fun _ _ _ h => h) (Or.inl ⟨by rfl, ?_⟩) ?_ ?_
            rotate_left
            · intro w'
              go_simp
              with_reducible rfl
            rotate_left
            · simp only [Act.put, List.setIfInBounds_toArray, List.set_cons_zero, List.set_cons_succ, i64_w, i32_w]
              rfl
            refine pure_ (i := 2) (N := some 49) (v := ?_) (a' := ?_) zb21_Px5 rfl rfl (any_of HT_.out (by kernel_rfl)) (fun _ _ _ h => h) (Or.inl ⟨by rfl, ?_⟩) ?_ ?_
            rotate_left
            · intro w'
              go_simp
              with_reducible rfl
            rotate_left
            · simp only [Act.put, List.setIfInBounds_toArray, List.set_cons_zero, List.set_cons_succ, i64_w, i32_w]
              rfl
            refine pure_ (i := 5) (N := some 52) (v := ?_) (a' := ?_) zb22_Px5 rfl rfl (any_of HT_.out (by kernel_rfl)) (fun _ _ _ h => h) (Or.inl ⟨by rfl, ?_⟩) ?_ ?_
            rotate_left
            · intro w'
              go_simp
              with_reducible rfl
            rotate_left
            · simp only [Act.put, List.setIfInBounds_toArray, List.set_cons_zero, List.set_cons_succ, i64_w, i32_w]
              rfl
            refine pure_ (i := 6) (N := some 53) (v := ?_) (a' := ?_) zb23_Px5 rfl rfl (any_of HT_.out (by kernel_rfl)) (fun _ _ _ h => h) (Or.inl ⟨by rfl, ?_⟩) ?_ ?_
            rotate_left
            · intro w'
              go_simp
              with_reducible rfl
            rotate_left
            · simp only [Act.put, List.setIfInBounds_toArray, List.set_cons_zero, List.set_cons_succ, i64_w, i32_w]
              rfl
            refine pure_ (i := 9) (N := some 56) (v := ?_) (a' := ?_) zb24_Px5 rfl rfl (any_of HT_.out (by kernel_rfl)) (fun _ _ _ h => h) (Or.inl ⟨by rfl, ?_⟩) ?_ ?_
            rotate_left
            · intro w'
              go_simp
              with_reducible rfl
            rotate_left
            · simp only [Act.put, List.setIfInBounds_toArray, List.set_cons_zero, List.set_cons_succ, i64_w, i32_w]
              rfl
            refine take_ (i := 3) (N := some 50) (v := ?_) (a' := ?_) zb25_Px5 rfl rfl (take_ofW HT_.out HW_.out (by kernel_rfl)) (fun _ _ _ h => h) (Or.inl ⟨by rfl, ?_⟩) hHeld ?_ ?_
            rotate_left
            · rintro w' ⟨s0, s1, s2, s3, s4⟩
              go_simp
              with_reducible rfl
            rotate_left
            · simp only [Act.put, List.setIfInBounds_toArray, List.set_cons_zero, List.set_cons_succ, i64_w, i32_w]
              rfl
            refine take_ (i := 7) (N := some 54) (v := ?_) (a' := ?_) zb26_Px5 rfl rfl (take_ofW HT_.out HW_.out (by kernel_rfl)) (fun _ _ _ h => h) (Or.inl ⟨by rfl, ?_⟩) hHeld ?_ ?_
            rotate_left
            · rintro w' ⟨s0, s1, s2, s3, s4⟩
              go_simp
              with_reducible rfl
            rotate_left
            · simp only [Act.put, List.setIfInBounds_toArray, List.set_cons_zero, List.set_cons_succ, i64_w, i32_w]
              rfl
            refine one_ (i := 4) (N := some 51) zb27_Px5 rfl rfl (one_of HT_.out (by kernel_rfl)) (by decide) (fun K hK => ?_)
            refine goesV_ Tryd.func26 (by kernel_rfl) rfl #[.int .u8 a0_1] (by rfl) rfl rfl rfl (by (try simp only [List.map_toArray, List.map_cons, List.map_nil]); first | done | rfl | (simp only [List.length_drop, List.length_take]; rfl)) ?_
            with_reducible refine (isa_Text_1.calls a0_1 t162 _ (hL.laid (by repeat (first | (with_reducible first | exact HB.out | apply below_alloc | apply pw_below_drewN | apply below_drew1 | refine below_set ?_ GE146.out) | exact HB.out))) A33.out).mono ?_
            rintro e w46 ⟨rfl, hb⟩
            refine ⟨_, rfl, ?_⟩
            have n0_ := Aside0.mk (Kd.R_below (by (with_reducible repeat (first | apply Kd.R_alloc | apply Kd.R_drewN | apply Kd.R_drew)); exact HO151.out) hb)
            have n1_ := Aside0.mk (blk_below (g := gb146) (o := .cells #[.int .u8 a0_0, .int .u8 a0_1, .int .u8 a0_2, .int .u8 a0_3, .int .i32 a0_4] 23 (0, 0)) (by (with_reducible repeat (first | refine blk_drewN ?_ _ | refine blk_drew ?_ | refine blk_alloc ?_ _)); exact BK146.out) hb)
            have n2_ := Aside0.mk (below_step (by repeat (first | (with_reducible first | exact HB.out | apply below_alloc | apply pw_below_drewN | apply below_drew1 | refine below_set ?_ GE146.out) | exact HB.out)) hb)
            clear HO151
            clear BK146
            clear HB
            have HO151 := n0_
            have BK146 := n1_
            have HB := n2_
            clear n0_ n1_ n2_
            (try clear hb)
            (try clear hb2)
            (try clear hk)
            (try clear hi)
            refine hK.out _ _ ⟨(blk_cell BK146.out 0).trans rfl, (blk_cell BK146.out 1).trans rfl, (blk_cell BK146.out 2).trans rfl, (blk_cell BK146.out 3).trans rfl, (blk_cell BK146.out 4).trans rfl⟩ (fun hHeld => ?_)
            clear hK K
            refine norm_ (a' := ?_) ?_ ?_
            rotate_left
            · show Act.put _ (some 51) _ = _
              simp only [Act.put, List.setIfInBounds_toArray, List.set_cons_zero, List.set_cons_succ, i64_w, i32_w]
              rfl
            refine one_ (i := 8) (N := some 55) zb28_Px5 rfl rfl (one_of HT_.out (by kernel_rfl)) (by decide) (fun K hK => ?_)
            refine goesV_ Tryd.func26 (by kernel_rfl) rfl #[.int .u8 a0_2] (by rfl) rfl rfl rfl (by (try simp only [List.map_toArray, List.map_cons, List.map_nil]); first | done | rfl | (simp only [List.length_drop, List.length_take]; rfl)) ?_
            with_reducible refine (isa_Text_1.calls a0_2 t163 _ (hL.laid (by repeat (first | (with_reducible first | exact HB.out | apply below_alloc | apply pw_below_drewN | apply below_drew1 | refine below_set ?_ GE146.out) | exact HB.out))) A34.out).mono ?_
            rintro e w47 ⟨rfl, hb⟩
            refine ⟨_, rfl, ?_⟩
            have n0_ := Aside0.mk (Kd.R_below (by (with_reducible repeat (first | apply Kd.R_alloc | apply Kd.R_drewN | apply Kd.R_drew)); exact HO151.out) hb)
            have n1_ := Aside0.mk (blk_below (g := gb146) (o := .cells #[.int .u8 a0_0, .int .u8 a0_1, .int .u8 a0_2, .int .u8 a0_3, .int .i32 a0_4] 23 (0, 0)) (by (with_reducible repeat (first | refine blk_drewN ?_ _ | refine blk_drew ?_ | refine blk_alloc ?_ _)); exact BK146.out) hb)
            have n2_ := Aside0.mk (below_step (by repeat (first | (with_reducible first | exact HB.out | apply below_alloc | apply pw_below_drewN | apply below_drew1 | refine below_set ?_ GE146.out) | exact HB.out)) hb)
            clear HO151
            clear BK146
            clear HB
            have HO151 := n0_
            have BK146 := n1_
            have HB := n2_
            clear n0_ n1_ n2_
            (try clear hb)
            (try clear hb2)
            (try clear hk)
            (try clear hi)
            refine hK.out _ _ ⟨(blk_cell BK146.out 0).trans rfl, (blk_cell BK146.out 1).trans rfl, (blk_cell BK146.out 2).trans rfl, (blk_cell BK146.out 3).trans rfl, (blk_cell BK146.out 4).trans rfl⟩ (fun hHeld => ?_)
            clear hK K
            refine norm_ (a' := ?_) ?_ ?_
            rotate_left
            · show Act.put _ (some 55) _ = _
              simp only [Act.put, List.setIfInBounds_toArray, List.set_cons_zero, List.set_cons_succ, i64_w, i32_w]
              rfl
            refine one_ (i := 10) (N := some 57) zb29_Px5 rfl rfl (one_of HT_.out (by kernel_rfl)) (by decide) (fun K hK => ?_)
            refine Kd.R_lit_step Kd.string _ 9 ?hg (N := 57) ?hd (xs := ([t162, t163, t153] : List ByteArray)) (inner := [.string t162, .string t163, .string t153]) (ok := fun _ => True) (okp := fun _ => True) ?hr ?hp (fun _ hk => hk) trivial (Below.refl _ _) (Nat.le_refl _) (by simp) ?_; (case hd => rfl); (case hg => rfl); (case hr => first | (go_simp; done) | (go_simp; rfl)); (case hp => exact (Reps.one (show Kd.M Kd.string _ _ _ t162 [.string t162] from rfl) (Reps.one (show Kd.M Kd.string _ _ _ t163 [.string t163] from rfl) (Reps.one (show Kd.M Kd.string _ _ _ t153 [.string t153] from rfl) (Reps.none _ _)))))
            intro v165 w48 ho49 hb hg_ hnew_
            clear hg_ hnew_
            (first | rw [← Ny164.out] at ho49 | (simp only [Int.reduceToNat] at ho49; rw [← Ny164.out] at ho49))
            have n0_ := Aside0.mk (Kd.R_elder' (by (with_reducible repeat (first | apply Kd.R_alloc | apply Kd.R_drewN | apply Kd.R_drew)); exact HO151.out) (Kd.R_base ho49) hb)
            have n1_ := Aside0.mk (Kd.R_lower (Kd.R_new' ho49 (Kd.R_lt (by (with_reducible repeat (first | apply Kd.R_alloc | apply Kd.R_drewN | apply Kd.R_drew)); exact HO151.out))) (below_size (by repeat (first | (with_reducible first | exact HB.out | apply below_alloc | apply pw_below_drewN | apply below_drew1 | refine below_set ?_ GE146.out) | exact HB.out))))
            have n2_ := Aside0.mk (blk_below (g := gb146) (o := .cells #[.int .u8 a0_0, .int .u8 a0_1, .int .u8 a0_2, .int .u8 a0_3, .int .i32 a0_4] 23 (0, 0)) (by (with_reducible repeat (first | refine blk_drewN ?_ _ | refine blk_drew ?_ | refine blk_alloc ?_ _)); exact BK146.out) hb)
            have n3_ := Aside0.mk (below_step (by repeat (first | (with_reducible first | exact HB.out | apply below_alloc | apply pw_below_drewN | apply below_drew1 | refine below_set ?_ GE146.out) | exact HB.out)) hb)
            clear HO151
            clear BK146
            clear HB
            have HO151 := n0_
            have HO166 := n1_
            have BK146 := n2_
            have HB := n3_
            clear n0_ n1_ n2_ n3_
            clear hb ho49
            obtain ⟨Ao50, co50, eo50⟩ := Kd.R_slice HO166.out
            (first | subst eo50 | (injection eo50 with f1_ f2_ f3_; have f4_ := f1_.symm; have f5_ := f3_.symm; clear f1_ f2_ f3_; subst f4_; subst f5_))
            refine hK.out _ _ ⟨(blk_cell BK146.out 0).trans rfl, (blk_cell BK146.out 1).trans rfl, (blk_cell BK146.out 2).trans rfl, (blk_cell BK146.out 3).trans rfl, (blk_cell BK146.out 4).trans rfl⟩ (fun hHeld => ?_)
            clear hK K
            refine norm_ (a' := ?_) ?_ ?_
            rotate_left
            · show Act.put _ (some 57) _ = _
              simp only [Act.put, List.setIfInBounds_toArray, List.set_cons_zero, List.set_cons_succ, i64_w, i32_w]
              rfl
            refine one_ (i := 11) (N := some 58) zb30_Px5 rfl rfl (one_of HT_.out (by kernel_rfl)) (by decide) (fun K hK => ?_)
            refine goes_ Tryd.func28 (by kernel_rfl) rfl #[.string (rdOf ByteArray.empty t149 (ji5)), .slice Ao50 y164.length co50] (by rfl) rfl rfl (by (try simp only [List.map_toArray, List.map_cons, List.map_nil]); first | done | (simp only [hji5]; rfl) | rfl | (simp only [List.length_drop, List.length_take]; rfl)) ?_
            with_reducible refine (isa_line.calls (rdOf ByteArray.empty t149 (ji5)) _ _ y164 t167 _ ?side1 ?side2 A35.out).mono ?_
            (case side1 => repeat (first | exact (Kd.R_reads' HO166.out).2.2 | (with_reducible refine Kd.C_alloc ?_ _) | (with_reducible refine Kd.C_drewN ?_ _) | (with_reducible refine Kd.C_drew ?_)))
            (case side2 => exact (Kd.R_reads' HO166.out).2.1)
            rintro e w51 ⟨rfl, hb⟩
            refine ⟨_, rfl, ?_⟩
            have n0_ := Aside0.mk (Kd.R_below (by (with_reducible repeat (first | apply Kd.R_alloc | apply Kd.R_drewN | apply Kd.R_drew)); exact HO151.out) hb)
            have n1_ := Aside0.mk (Kd.R_below (by (with_reducible repeat (first | apply Kd.R_alloc | apply Kd.R_drewN | apply Kd.R_drew)); exact HO166.out) hb)
            have n2_ := Aside0.mk (blk_below (g := gb146) (o := .cells #[.int .u8 a0_0, .int .u8 a0_1, .int .u8 a0_2, .int .u8 a0_3, .int .i32 a0_4] 23 (0, 0)) (by (with_reducible repeat (first | refine blk_drewN ?_ _ | refine blk_drew ?_ | refine blk_alloc ?_ _)); exact BK146.out) hb)
            have n3_ := Aside0.mk (below_step (by repeat (first | (with_reducible first | exact HB.out | apply below_alloc | apply pw_below_drewN | apply below_drew1 | refine below_set ?_ GE146.out) | exact HB.out)) hb)
            clear HO151
            clear HO166
            clear BK146
            clear HB
            have HO151 := n0_
            have HO166 := n1_
            have BK146 := n2_
            have HB := n3_
            clear n0_ n1_ n2_ n3_
            (try clear hb)
            (try clear hb2)
            (try clear hk)
            (try clear hi)
            refine hK.out _ _ ⟨(blk_cell BK146.out 0).trans rfl, (blk_cell BK146.out 1).trans rfl, (blk_cell BK146.out 2).trans rfl, (blk_cell BK146.out 3).trans rfl, (blk_cell BK146.out 4).trans rfl⟩ (fun hHeld => ?_)
            clear hK K
            refine norm_ (a' := ?_) ?_ ?_
            rotate_left
            · show Act.put _ (some 58) _ = _
              simp only [Act.put, List.setIfInBounds_toArray, List.set_cons_zero, List.set_cons_succ, i64_w, i32_w]
              rfl
            refine pure_ (i := 12) (N := some 2) (v := ?_) (a' := ?_) zb31_Px5 rfl rfl (any_of HT_.out (by kernel_rfl)) (fun _ _ _ h => h) (Or.inl ⟨by rfl, ?_⟩) ?_ ?_
            rotate_left
            · intro w'
              go_simp
              with_reducible rfl
            rotate_left
            · simp only [Act.put, List.setIfInBounds_toArray, List.set_cons_zero, List.set_cons_succ, i64_w, i32_w]
              rfl
            refine done_ (done_of HT_.out (by kernel_rfl)) ?_
            try go_wp2
            go_ret
            exact ⟨by first | rfl | (simp [errW_none, errW_some] <;> rfl) | (simp only [← hji5]; first | rfl | (simp [errW_none, errW_some] <;> rfl)) | (simp [*, errW_none, errW_some] <;> rfl), by repeat (first | (with_reducible first | exact HB.out | apply below_alloc | apply pw_below_drewN | apply below_drew1 | refine below_set ?_ GE146.out) | exact HB.out)⟩
          · rw [if_neg c32] at H
            have c32b0 : (t154 == 105) = false := beq_eq_false_iff_ne.mpr c32
            have c32b1 : (t154 != 105) = true := bne_iff_ne.mpr c32
            by_cases c52 : t154 = 108
            · rw [if_pos c52] at H
              have c52b0 : (t154 == 108) = true := beq_iff_eq.mpr c52
              have c52b1 : (t154 != 108) = false := bne_eq_false_iff_eq.mpr c52
              clear c52
              replace H := Option.bind_eq_some_iff.mp H
              obtain ⟨t168, A530, H⟩ := H
              replace H : ((isa_line.f (rdOf ByteArray.empty t149 (ji5)) (([t168, t153] : List ByteArray))).bind fun t172 => (some t172)) = some r := H
              have A53 := Aside0.mk A530
              clear A530
              obtain ⟨y169, hy169⟩ : ∃ y_ : List ByteArray, y_ = (([t168, t153] : List ByteArray)) := ⟨_, rfl⟩
              replace H : ((isa_line.f (rdOf ByteArray.empty t149 (ji5)) y169).bind fun t172 => (some t172)) = some r := by first | (rw [hy169]; with_reducible exact H) | (have H2_ := (Option.bind_some _ _).symm.trans H; rw [hy169]; with_reducible exact H2_) | (have H2_ := (Option.bind_some _ _).symm.trans H; with_reducible exact H2_) | with_reducible exact H | (rw [hy169]; exact H) | exact H
              have Ny169 := Aside0.mk hy169
              clear hy169
              replace H := Option.bind_eq_some_iff.mp H
              obtain ⟨t172, A540, H⟩ := H
              replace H : (some t172) = some r := H
              have A54 := Aside0.mk A540
              clear A540
              obtain rfl := Option.some.inj H
              go_enter Tryd.func15, Tryd.ntmps15
              try go_wp2_with (first | ((with_reducible refine gate_dst (N := 1) rfl ?_); refine box_event ?hg (N := 1) ?hd (cs := #[.int .u8 a0_0, .int .u8 a0_1, .int .u8 a0_2, .int .u8 a0_3, .int .i32 a0_4]) (t := 23) ?hr ?_; (case hd => rfl); (case hg => rfl); (case hr => first | (go_simp; done) | (go_simp; rfl)); intro gb146 hg w55 hbox hb; have n0_ := Aside0.mk (below_step (by repeat (first | (with_reducible first | exact HB.out | apply below_alloc | apply pw_below_drewN | apply below_drew1) | exact HB.out)) hb); have n1_ := Aside0.mk (hbox); have n2_ := Aside0.mk ((by rw [hg]; exact (below_size (by repeat (first | (with_reducible first | exact HB.out | apply below_alloc | apply pw_below_drewN | apply below_drew1) | exact HB.out))) : w.heap.size ≤ gb146)); have n3_ := Aside0.mk ((by rw [hg]; exact (below_size (by repeat (first | (with_reducible first | exact HB.out | apply below_alloc | apply pw_below_drewN | apply below_drew1) | exact HB.out))) : w.heap.size ≤ gb146)); clear HB; have HB := n0_; have BK146 := n1_; have GW146 := n2_; have GE146 := n3_; clear n0_ n1_ n2_ n3_; clear hb hbox hg; have hcz56_0 : w55.cell? ⟨gb146, 0, none⟩ = some (.int .u8 a0_0) := (blk_cell BK146.out 0).trans rfl; have hcz56_1 : w55.cell? ⟨gb146, 1, none⟩ = some (.int .u8 a0_1) := (blk_cell BK146.out 1).trans rfl; have hcz56_2 : w55.cell? ⟨gb146, 2, none⟩ = some (.int .u8 a0_2) := (blk_cell BK146.out 2).trans rfl; have hcz56_3 : w55.cell? ⟨gb146, 3, none⟩ = some (.int .u8 a0_3) := (blk_cell BK146.out 3).trans rfl; have hcz56_4 : w55.cell? ⟨gb146, 4, none⟩ = some (.int .i32 a0_4) := (blk_cell BK146.out 4).trans rfl; have hfz56_0 := blk_frozen BK146.out 0; have hfz56_1 := blk_frozen BK146.out 1; have hfz56_2 := blk_frozen BK146.out 2; have hfz56_3 := blk_frozen BK146.out 3; have hfz56_4 := blk_frozen BK146.out 4) | ((with_reducible refine gate_callee (f := 11) rfl ?_); refine goesL_ (some 10) rfl rfl Tryd.func11 (by kernel_rfl) rfl #[.agg #[.int .u8 a0_0, .int .u8 a0_1, .int .u8 a0_2, .int .u8 a0_3, .int .i32 a0_4]] rfl (by (try simp only [List.map_toArray, List.map_cons, List.map_nil]); first | done | rfl | (simp only [List.length_drop, List.length_take]; rfl)) ?_; (with_reducible refine (isa_Enc.calls k a0_0 a0_1 a0_2 a0_3 a0_4 t147 t148 _ A2.out).mono ?_); rintro e w57 ⟨rfl, hb⟩; refine ⟨_, rfl, ?_⟩; have n0_ := Aside0.mk (blk_below (g := gb146) (o := .cells #[.int .u8 a0_0, .int .u8 a0_1, .int .u8 a0_2, .int .u8 a0_3, .int .i32 a0_4] 23 (0, 0)) (by (with_reducible repeat (first | refine blk_drewN ?_ _ | refine blk_drew ?_ | refine blk_alloc ?_ _)); exact BK146.out) hb); have n1_ := Aside0.mk (below_step (by repeat (first | (with_reducible first | exact HB.out | apply below_alloc | apply pw_below_drewN | apply below_drew1 | refine below_set ?_ GE146.out) | exact HB.out)) hb); clear BK146; clear HB; have BK146 := n0_; have HB := n1_; clear n0_ n1_; (try clear hb); (try clear hb2); (try clear hk); (try clear hi)))
              have n0_ := Aside0.mk (blk_drew BK146.out)
              have n1_ := Aside0.mk (below_drew1 HB.out)
              clear BK146
              clear HB
              have BK146 := n0_
              have HB := n1_
              clear n0_ n1_
              refine start_ (n := 7) (S := fun w' => w'.cell? ⟨gb146, 0, none⟩ = some (.int .u8 a0_0) ∧ w'.cell? ⟨gb146, 1, none⟩ = some (.int .u8 a0_1) ∧ w'.cell? ⟨gb146, 2, none⟩ = some (.int .u8 a0_2) ∧ w'.cell? ⟨gb146, 3, none⟩ = some (.int .u8 a0_3) ∧ w'.cell? ⟨gb146, 4, none⟩ = some (.int .i32 a0_4)) (ds := []) #[false, false, false, false, false, false, false] (by kernel_rfl) rfl rfl ⟨(blk_cell BK146.out 0).trans rfl, (blk_cell BK146.out 1).trans rfl, (blk_cell BK146.out 2).trans rfl, (blk_cell BK146.out 3).trans rfl, (blk_cell BK146.out 4).trans rfl⟩ (fun hHeld => ?_)
              generalize w57.drew = w58 at BK146 HB hHeld ⊢
              refine pure_ (i := 1) (N := some 16) (v := ?_) (a' := ?_) #[false, true, false, false, false, false, false] rfl rfl (by kernel_rfl) (fun _ _ _ h => h) (Or.inl ⟨by rfl, ?_⟩) ?_ ?_
              rotate_left
              · intro w'
                go_simp
                with_reducible rfl
              rotate_left
              · simp only [Act.put, List.setIfInBounds_toArray, List.set_cons_zero, List.set_cons_succ, i64_w, i32_w]
                rfl
              refine take_ (i := 2) (N := some 17) (v := ?_) (a' := ?_) #[false, true, true, false, false, false, false] rfl rfl (by kernel_rfl) (fun _ _ _ h => h) (Or.inl ⟨by rfl, ?_⟩) hHeld ?_ ?_
              rotate_left
              · rintro w' ⟨s0, s1, s2, s3, s4⟩
                go_simp
                with_reducible rfl
              rotate_left
              · simp only [Act.put, List.setIfInBounds_toArray, List.set_cons_zero, List.set_cons_succ, i64_w, i32_w]
                rfl
              refine pure_ (i := 3) (N := some 18) (v := ?_) (a' := ?_) #[false, true, true, true, false, false, false] rfl rfl (by kernel_rfl) (fun _ _ _ h => h) (Or.inl ⟨by rfl, ?_⟩) ?_ ?_
              rotate_left
              · intro w'
                go_simp
                with_reducible rfl
              rotate_left
              · simp only [Act.put, List.setIfInBounds_toArray, List.set_cons_zero, List.set_cons_succ, i64_w, i32_w]
                rfl
              refine one_ (i := 0) (N := some 15) #[true, true, true, true, false, false, false] rfl rfl (by kernel_rfl) (by decide) (fun K hK => ?_)
              refine goes_ Tryd.func25 (by kernel_rfl) rfl #[.string (⟨#[97, 100, 100, 32, 115, 117, 98, 32, 109, 117, 108, 32, 100, 105, 118, 32, 114, 101, 109, 32, 97, 110, 100, 32, 111, 114, 32, 120, 111, 114, 32, 115, 104, 108, 32, 115, 104, 114, 32, 115, 97, 114, 32, 115, 108, 116, 32, 115, 108, 116, 117, 32, 97, 100, 100, 105, 32, 97, 110, 100, 105, 32, 111, 114, 105, 32, 120, 111, 114, 105, 32, 115, 108, 116, 105, 32, 108, 117, 105, 32, 108, 119, 32, 108, 98, 32, 108, 98, 117, 32, 115, 119, 32, 115, 98, 32, 98, 101, 113, 32, 98, 110, 101, 32, 98, 108, 116, 32, 98, 108, 116, 117, 32, 106, 97, 108, 32, 106, 97, 108, 114, 32, 115, 121, 115]⟩ : ByteArray), .string (⟨#[32]⟩ : ByteArray)] (by rfl) rfl rfl (by (try simp only [List.map_toArray, List.map_cons, List.map_nil]); first | done | rfl | (simp only [List.length_drop, List.length_take]; rfl)) ?_
              with_reducible refine (strings_Split.calls (⟨#[97, 100, 100, 32, 115, 117, 98, 32, 109, 117, 108, 32, 100, 105, 118, 32, 114, 101, 109, 32, 97, 110, 100, 32, 111, 114, 32, 120, 111, 114, 32, 115, 104, 108, 32, 115, 104, 114, 32, 115, 97, 114, 32, 115, 108, 116, 32, 115, 108, 116, 117, 32, 97, 100, 100, 105, 32, 97, 110, 100, 105, 32, 111, 114, 105, 32, 120, 111, 114, 105, 32, 115, 108, 116, 105, 32, 108, 117, 105, 32, 108, 119, 32, 108, 98, 32, 108, 98, 117, 32, 115, 119, 32, 115, 98, 32, 98, 101, 113, 32, 98, 110, 101, 32, 98, 108, 116, 32, 98, 108, 116, 117, 32, 106, 97, 108, 32, 106, 97, 108, 114, 32, 115, 121, 115]⟩ : ByteArray) (⟨#[32]⟩ : ByteArray) t149 _ (hL.laid (by repeat (first | (with_reducible first | exact HB.out | apply below_alloc | apply pw_below_drewN | apply below_drew1 | refine below_set ?_ GE146.out) | exact HB.out))) A4.out).mono ?_
              rintro e w59 ⟨v150, rfl, ho0, hb⟩
              refine ⟨_, rfl, ?_⟩
              have n0_ := Aside0.mk (Kd.R_lower ho0 (below_size (by repeat (first | (with_reducible first | exact HB.out | apply below_alloc | apply pw_below_drewN | apply below_drew1 | refine below_set ?_ GE146.out) | exact HB.out))))
              have n1_ := Aside0.mk (blk_below (g := gb146) (o := .cells #[.int .u8 a0_0, .int .u8 a0_1, .int .u8 a0_2, .int .u8 a0_3, .int .i32 a0_4] 23 (0, 0)) (by (with_reducible repeat (first | refine blk_drewN ?_ _ | refine blk_drew ?_ | refine blk_alloc ?_ _)); exact BK146.out) hb)
              have n2_ := Aside0.mk (below_step (by repeat (first | (with_reducible first | exact HB.out | apply below_alloc | apply pw_below_drewN | apply below_drew1 | refine below_set ?_ GE146.out) | exact HB.out)) hb)
              clear BK146
              clear HB
              have HO151 := n0_
              have BK146 := n1_
              have HB := n2_
              clear n0_ n1_ n2_
              (try clear hb)
              (try clear hb2)
              (try clear hk)
              (try clear hi)
              (try clear ho0)
              obtain ⟨Ao60, co60, eo60⟩ := Kd.R_slice HO151.out
              (first | subst eo60 | (injection eo60 with f1_ f2_ f3_; have f4_ := f1_.symm; have f5_ := f3_.symm; clear f1_ f2_ f3_; subst f4_; subst f5_))
              have p152 : 0 ≤ ((ji5) : Int) := of_decide_eq_true (by first | (with_reducible assumption) | assumption)
              have q152 : (ji5) < (t149.length : Int) := of_decide_eq_true (by first | (with_reducible assumption) | assumption)
              obtain ⟨ad152, e152, hx152_0⟩ := Kd.at_string (Kd.R_reads' HO151.out).2.2 (ji5) p152 q152
              cases e152
              replace p152 := eq_true p152
              replace q152 := eq_true q152
              refine hK.out _ _ ⟨(blk_cell BK146.out 0).trans rfl, (blk_cell BK146.out 1).trans rfl, (blk_cell BK146.out 2).trans rfl, (blk_cell BK146.out 3).trans rfl, (blk_cell BK146.out 4).trans rfl⟩ (fun hHeld => ?_)
              clear hK K
              refine norm_ (a' := ?_) ?_ ?_
              rotate_left
              · show Act.put _ (some 15) _ = _
                simp only [Act.put, List.setIfInBounds_toArray, List.set_cons_zero, List.set_cons_succ, i64_w, i32_w]
                rfl
              refine pure_ (i := 4) (N := some 19) (v := ?_) (a' := ?_) #[true, true, true, true, true, false, false] rfl rfl (by kernel_rfl) (fun _ _ _ h => h) (Or.inl ⟨by rfl, ?_⟩) ?_ ?_
              rotate_left
              · intro w'
                go_simp
                with_reducible rfl
              rotate_left
              · simp only [Act.put, List.setIfInBounds_toArray, List.set_cons_zero, List.set_cons_succ, i64_w, i32_w]
                rfl
              refine one_ (i := 5) (N := some 20) #[true, true, true, true, true, true, false] rfl rfl (by kernel_rfl) (by decide) (fun K hK => ?_)
              go_wp2
              refine hK.out _ _ ⟨(blk_cell BK146.out 0).trans rfl, (blk_cell BK146.out 1).trans rfl, (blk_cell BK146.out 2).trans rfl, (blk_cell BK146.out 3).trans rfl, (blk_cell BK146.out 4).trans rfl⟩ (fun hHeld => ?_)
              clear hK K
              refine pure_ (i := 6) (N := some 5) (v := ?_) (a' := ?_) #[true, true, true, true, true, true, true] rfl rfl (by kernel_rfl) (fun _ _ _ h => h) (Or.inl ⟨by rfl, ?_⟩) ?_ ?_
              rotate_left
              · intro w'
                go_simp
                with_reducible rfl
              rotate_left
              · simp only [Act.put, List.setIfInBounds_toArray, List.set_cons_zero, List.set_cons_succ, i64_w, i32_w]
                rfl
              refine done_ (by kernel_rfl) ?_
              have hcz61_0 : w59.cell? ⟨gb146, 0, none⟩ = some (.int .u8 a0_0) := (blk_cell BK146.out 0).trans rfl
              have hcz61_1 : w59.cell? ⟨gb146, 1, none⟩ = some (.int .u8 a0_1) := (blk_cell BK146.out 1).trans rfl
              have hcz61_2 : w59.cell? ⟨gb146, 2, none⟩ = some (.int .u8 a0_2) := (blk_cell BK146.out 2).trans rfl
              have hcz61_3 : w59.cell? ⟨gb146, 3, none⟩ = some (.int .u8 a0_3) := (blk_cell BK146.out 3).trans rfl
              have hcz61_4 : w59.cell? ⟨gb146, 4, none⟩ = some (.int .i32 a0_4) := (blk_cell BK146.out 4).trans rfl
              have hfz61_0 := blk_frozen BK146.out 0
              have hfz61_1 := blk_frozen BK146.out 1
              have hfz61_2 := blk_frozen BK146.out 2
              have hfz61_3 := blk_frozen BK146.out 3
              have hfz61_4 := blk_frozen BK146.out 4
              try go_wp2_with (first | ((with_reducible refine gate_callee (f := 27) rfl ?_); refine goesL_ (some 24) rfl rfl Tryd.func27 (by kernel_rfl) rfl #[.int .i64 (wrap64 (a0_4))] rfl (by (try simp only [List.map_toArray, List.map_cons, List.map_nil]); first | done | rfl | (simp only [List.length_drop, List.length_take]; rfl)) ?_; (with_reducible refine (strconv_Itoa_27.calls (wrap64 (a0_4)) t153 _ (hL.laid (by repeat (first | (with_reducible first | exact HB.out | apply below_alloc | apply pw_below_drewN | apply below_drew1 | refine below_set ?_ GE146.out) | exact HB.out))) A8.out).mono ?_); rintro e w62 ⟨rfl, hb⟩; refine ⟨_, rfl, ?_⟩; have n0_ := Aside0.mk (Kd.R_below (by (with_reducible repeat (first | apply Kd.R_alloc | apply Kd.R_drewN | apply Kd.R_drew)); exact HO151.out) hb); have n1_ := Aside0.mk (blk_below (g := gb146) (o := .cells #[.int .u8 a0_0, .int .u8 a0_1, .int .u8 a0_2, .int .u8 a0_3, .int .i32 a0_4] 23 (0, 0)) (by (with_reducible repeat (first | refine blk_drewN ?_ _ | refine blk_drew ?_ | refine blk_alloc ?_ _)); exact BK146.out) hb); have n2_ := Aside0.mk (below_step (by repeat (first | (with_reducible first | exact HB.out | apply below_alloc | apply pw_below_drewN | apply below_drew1 | refine below_set ?_ GE146.out) | exact HB.out)) hb); clear HO151; clear BK146; clear HB; have HO151 := n0_; have BK146 := n1_; have HB := n2_; clear n0_ n1_ n2_; (try clear hb); (try clear hb2); (try clear hk); (try clear hi); have hcz63_0 : w62.cell? ⟨gb146, 0, none⟩ = some (.int .u8 a0_0) := (blk_cell BK146.out 0).trans rfl; have hcz63_1 : w62.cell? ⟨gb146, 1, none⟩ = some (.int .u8 a0_1) := (blk_cell BK146.out 1).trans rfl; have hcz63_2 : w62.cell? ⟨gb146, 2, none⟩ = some (.int .u8 a0_2) := (blk_cell BK146.out 2).trans rfl; have hcz63_3 : w62.cell? ⟨gb146, 3, none⟩ = some (.int .u8 a0_3) := (blk_cell BK146.out 3).trans rfl; have hcz63_4 : w62.cell? ⟨gb146, 4, none⟩ = some (.int .i32 a0_4) := (blk_cell BK146.out 4).trans rfl; have hfz63_0 := blk_frozen BK146.out 0; have hfz63_1 := blk_frozen BK146.out 1; have hfz63_2 := blk_frozen BK146.out 2; have hfz63_3 := blk_frozen BK146.out 3; have hfz63_4 := blk_frozen BK146.out 4) | ((with_reducible refine gate_callee (f := 19) rfl ?_); refine goesL_ (some 27) rfl rfl Tryd.func19 (by kernel_rfl) rfl #[.int .u8 a0_0] rfl (by (try simp only [List.map_toArray, List.map_cons, List.map_nil]); first | done | rfl | (simp only [List.length_drop, List.length_take]; rfl)) ?_; (with_reducible refine (isa_form.calls a0_0 t154 _ A9.out).mono ?_); rintro e w' ⟨rfl, ⟨nd, rfl⟩⟩; refine ⟨_, rfl, ?_⟩) | ((with_reducible refine gate_calleeV rfl ?_); refine goesVL_ (some 65) rfl rfl Tryd.func26 (by kernel_rfl) rfl #[.int .u8 a0_1] rfl rfl (by (try simp only [List.map_toArray, List.map_cons, List.map_nil]); first | done | rfl | (simp only [List.length_drop, List.length_take]; rfl)) ?_; (with_reducible refine (isa_Text_1.calls a0_1 t168 _ (hL.laid (by repeat (first | (with_reducible first | exact HB.out | apply below_alloc | apply pw_below_drewN | apply below_drew1 | refine below_set ?_ GE146.out) | exact HB.out))) A53.out).mono ?_); rintro e w64 ⟨rfl, hb⟩; refine ⟨_, rfl, ?_⟩; have n0_ := Aside0.mk (Kd.R_below (by (with_reducible repeat (first | apply Kd.R_alloc | apply Kd.R_drewN | apply Kd.R_drew)); exact HO151.out) hb); have n1_ := Aside0.mk (blk_below (g := gb146) (o := .cells #[.int .u8 a0_0, .int .u8 a0_1, .int .u8 a0_2, .int .u8 a0_3, .int .i32 a0_4] 23 (0, 0)) (by (with_reducible repeat (first | refine blk_drewN ?_ _ | refine blk_drew ?_ | refine blk_alloc ?_ _)); exact BK146.out) hb); have n2_ := Aside0.mk (below_step (by repeat (first | (with_reducible first | exact HB.out | apply below_alloc | apply pw_below_drewN | apply below_drew1 | refine below_set ?_ GE146.out) | exact HB.out)) hb); clear HO151; clear BK146; clear HB; have HO151 := n0_; have BK146 := n1_; have HB := n2_; clear n0_ n1_ n2_; (try clear hb); (try clear hb2); (try clear hk); (try clear hi)) | ((with_reducible refine gate_dst (N := 67) rfl ?_); refine Kd.R_lit Kd.string _ 9 ?hg (N := 67) ?hd (xs := ([t168, t153] : List ByteArray)) (inner := [.string t168, .string t153]) (ok := fun _ => True) (okp := fun _ => True) ?hr ?hp (fun _ hk => hk) trivial (Below.refl _ _) (Nat.le_refl _) (by simp) ?_; (case hd => rfl); (case hg => rfl); (case hr => first | (go_simp; done) | (go_simp; rfl)); (case hp => exact (Reps.one (show Kd.M Kd.string _ _ _ t168 [.string t168] from rfl) (Reps.one (show Kd.M Kd.string _ _ _ t153 [.string t153] from rfl) (Reps.none _ _)))); intro v170 w65 ho66 hb hg_ hnew_; clear hg_ hnew_; (first | rw [← Ny169.out] at ho66 | (simp only [Int.reduceToNat] at ho66; rw [← Ny169.out] at ho66)); have n0_ := Aside0.mk (Kd.R_elder' (by (with_reducible repeat (first | apply Kd.R_alloc | apply Kd.R_drewN | apply Kd.R_drew)); exact HO151.out) (Kd.R_base ho66) hb); have n1_ := Aside0.mk (Kd.R_lower (Kd.R_new' ho66 (Kd.R_lt (by (with_reducible repeat (first | apply Kd.R_alloc | apply Kd.R_drewN | apply Kd.R_drew)); exact HO151.out))) (below_size (by repeat (first | (with_reducible first | exact HB.out | apply below_alloc | apply pw_below_drewN | apply below_drew1 | refine below_set ?_ GE146.out) | exact HB.out)))); have n2_ := Aside0.mk (blk_below (g := gb146) (o := .cells #[.int .u8 a0_0, .int .u8 a0_1, .int .u8 a0_2, .int .u8 a0_3, .int .i32 a0_4] 23 (0, 0)) (by (with_reducible repeat (first | refine blk_drewN ?_ _ | refine blk_drew ?_ | refine blk_alloc ?_ _)); exact BK146.out) hb); have n3_ := Aside0.mk (below_step (by repeat (first | (with_reducible first | exact HB.out | apply below_alloc | apply pw_below_drewN | apply below_drew1 | refine below_set ?_ GE146.out) | exact HB.out)) hb); clear HO151; clear BK146; clear HB; have HO151 := n0_; have HO171 := n1_; have BK146 := n2_; have HB := n3_; clear n0_ n1_ n2_ n3_; clear hb ho66; obtain ⟨Ao67, co67, eo67⟩ := Kd.R_slice HO171.out; subst eo67) | ((with_reducible refine gate_callee (f := 28) rfl ?_); refine goesL_ (some 68) rfl rfl Tryd.func28 (by kernel_rfl) rfl #[.string (rdOf ByteArray.empty t149 (ji5)), .slice Ao67 y169.length co67] rfl (by (try simp only [List.map_toArray, List.map_cons, List.map_nil]); first | done | (simp only [hji5]; rfl) | rfl | (simp only [List.length_drop, List.length_take]; rfl)) ?_; (with_reducible refine (isa_line.calls (rdOf ByteArray.empty t149 (ji5)) _ _ y169 t172 _ ?side1 ?side2 A54.out).mono ?_); (case side1 => repeat (first | exact (Kd.R_reads' HO171.out).2.2 | (with_reducible refine Kd.C_alloc ?_ _) | (with_reducible refine Kd.C_drewN ?_ _) | (with_reducible refine Kd.C_drew ?_))); (case side2 => exact (Kd.R_reads' HO171.out).2.1); rintro e w68 ⟨rfl, hb⟩; refine ⟨_, rfl, ?_⟩; have n0_ := Aside0.mk (Kd.R_below (by (with_reducible repeat (first | apply Kd.R_alloc | apply Kd.R_drewN | apply Kd.R_drew)); exact HO151.out) hb); have n1_ := Aside0.mk (Kd.R_below (by (with_reducible repeat (first | apply Kd.R_alloc | apply Kd.R_drewN | apply Kd.R_drew)); exact HO171.out) hb); have n2_ := Aside0.mk (blk_below (g := gb146) (o := .cells #[.int .u8 a0_0, .int .u8 a0_1, .int .u8 a0_2, .int .u8 a0_3, .int .i32 a0_4] 23 (0, 0)) (by (with_reducible repeat (first | refine blk_drewN ?_ _ | refine blk_drew ?_ | refine blk_alloc ?_ _)); exact BK146.out) hb); have n3_ := Aside0.mk (below_step (by repeat (first | (with_reducible first | exact HB.out | apply below_alloc | apply pw_below_drewN | apply below_drew1 | refine below_set ?_ GE146.out) | exact HB.out)) hb); clear HO151; clear HO171; clear BK146; clear HB; have HO151 := n0_; have HO171 := n1_; have BK146 := n2_; have HB := n3_; clear n0_ n1_ n2_ n3_; (try clear hb); (try clear hb2); (try clear hk); (try clear hi)))
              go_ret
              exact ⟨by first | rfl | (simp [errW_none, errW_some] <;> rfl) | (simp only [← hji5]; first | rfl | (simp [errW_none, errW_some] <;> rfl)) | (simp [*, errW_none, errW_some] <;> rfl), by repeat (first | (with_reducible first | exact HB.out | apply below_alloc | apply pw_below_drewN | apply below_drew1 | refine below_set ?_ GE146.out) | exact HB.out)⟩
            · rw [if_neg c52] at H
              have c52b0 : (t154 == 108) = false := beq_eq_false_iff_ne.mpr c52
              have c52b1 : (t154 != 108) = true := bne_iff_ne.mpr c52
              by_cases c69 : t154 = 109
              · rw [if_pos c69] at H
                have c69b0 : (t154 == 109) = true := beq_iff_eq.mpr c69
                have c69b1 : (t154 != 109) = false := bne_eq_false_iff_eq.mpr c69
                clear c69
                replace H := Option.bind_eq_some_iff.mp H
                obtain ⟨t173, A700, H⟩ := H
                replace H : (if t153.size + 1 ≤ 9223372036854775807 then ((isa_Text_1.f a0_2).bind fun t174 => (if (t153 ++ (⟨#[40]⟩ : ByteArray)).size + t174.size ≤ 9223372036854775807 then (if ((t153 ++ (⟨#[40]⟩ : ByteArray)) ++ t174).size + 1 ≤ 9223372036854775807 then ((isa_line.f (rdOf ByteArray.empty t149 (ji5)) (([t173, ((t153 ++ (⟨#[40]⟩ : ByteArray)) ++ t174) ++ (⟨#[41]⟩ : ByteArray)] : List ByteArray))).bind fun t178 => (some t178)) else (none)) else (none))) else (none)) = some r := H
                have A70 := Aside0.mk A700
                clear A700
                by_cases c71 : t153.size + 1 ≤ 9223372036854775807
                · rw [if_pos c71] at H
                  have c71b0 := eq_true c71
                  have c71b1 : decide (t153.size + 1 ≤ 9223372036854775807) = true := decide_eq_true c71
                  try have c71b2 : (9223372036854775807 < t153.size + 1) = False := eq_false (Nat.not_lt.2 c71)
                  replace H := Option.bind_eq_some_iff.mp H
                  obtain ⟨t174, A720, H⟩ := H
                  replace H : (if (t153 ++ (⟨#[40]⟩ : ByteArray)).size + t174.size ≤ 9223372036854775807 then (if ((t153 ++ (⟨#[40]⟩ : ByteArray)) ++ t174).size + 1 ≤ 9223372036854775807 then ((isa_line.f (rdOf ByteArray.empty t149 (ji5)) (([t173, ((t153 ++ (⟨#[40]⟩ : ByteArray)) ++ t174) ++ (⟨#[41]⟩ : ByteArray)] : List ByteArray))).bind fun t178 => (some t178)) else (none)) else (none)) = some r := H
                  have A72 := Aside0.mk A720
                  clear A720
                  by_cases c73 : (t153 ++ (⟨#[40]⟩ : ByteArray)).size + t174.size ≤ 9223372036854775807
                  · rw [if_pos c73] at H
                    have c73b0 := eq_true c73
                    have c73b1 : decide ((t153 ++ (⟨#[40]⟩ : ByteArray)).size + t174.size ≤ 9223372036854775807) = true := decide_eq_true c73
                    try have c73b2 : (9223372036854775807 < (t153 ++ (⟨#[40]⟩ : ByteArray)).size + t174.size) = False := eq_false (Nat.not_lt.2 c73)
                    try (have c73b5 := c73b0; have c73b6 := c73b2; simp only [ByteArray.size_append, ByteArray.size_extract, Int.toNat_natCast, Nat.min_self, size_lit_, List.size_toArray, List.length_cons, List.length_nil, Nat.reduceAdd] at c73b5 c73b6)
                    by_cases c74 : ((t153 ++ (⟨#[40]⟩ : ByteArray)) ++ t174).size + 1 ≤ 9223372036854775807
                    · rw [if_pos c74] at H
                      have c74b0 := eq_true c74
                      have c74b1 : decide (((t153 ++ (⟨#[40]⟩ : ByteArray)) ++ t174).size + 1 ≤ 9223372036854775807) = true := decide_eq_true c74
                      try have c74b2 : (9223372036854775807 < ((t153 ++ (⟨#[40]⟩ : ByteArray)) ++ t174).size + 1) = False := eq_false (Nat.not_lt.2 c74)
                      try (have c74b5 := c74b0; have c74b6 := c74b2; simp only [ByteArray.size_append, ByteArray.size_extract, Int.toNat_natCast, Nat.min_self, size_lit_, List.size_toArray, List.length_cons, List.length_nil, Nat.reduceAdd] at c74b5 c74b6)
                      obtain ⟨y175, hy175⟩ : ∃ y_ : List ByteArray, y_ = (([t173, ((t153 ++ (⟨#[40]⟩ : ByteArray)) ++ t174) ++ (⟨#[41]⟩ : ByteArray)] : List ByteArray)) := ⟨_, rfl⟩
                      replace H : ((isa_line.f (rdOf ByteArray.empty t149 (ji5)) y175).bind fun t178 => (some t178)) = some r := by first | (rw [hy175]; with_reducible exact H) | (have H2_ := (Option.bind_some _ _).symm.trans H; rw [hy175]; with_reducible exact H2_) | (have H2_ := (Option.bind_some _ _).symm.trans H; with_reducible exact H2_) | with_reducible exact H | (rw [hy175]; exact H) | exact H
                      have Ny175 := Aside0.mk hy175
                      clear hy175
                      replace H := Option.bind_eq_some_iff.mp H
                      obtain ⟨t178, A750, H⟩ := H
                      replace H : (some t178) = some r := H
                      have A75 := Aside0.mk A750
                      clear A750
                      obtain rfl := Option.some.inj H
                      go_enter Tryd.func15, Tryd.ntmps15
                      try go_wp2_with (first | ((with_reducible refine gate_dst (N := 1) rfl ?_); refine box_event ?hg (N := 1) ?hd (cs := #[.int .u8 a0_0, .int .u8 a0_1, .int .u8 a0_2, .int .u8 a0_3, .int .i32 a0_4]) (t := 23) ?hr ?_; (case hd => rfl); (case hg => rfl); (case hr => first | (go_simp; done) | (go_simp; rfl)); intro gb146 hg w76 hbox hb; have n0_ := Aside0.mk (below_step (by repeat (first | (with_reducible first | exact HB.out | apply below_alloc | apply pw_below_drewN | apply below_drew1) | exact HB.out)) hb); have n1_ := Aside0.mk (hbox); have n2_ := Aside0.mk ((by rw [hg]; exact (below_size (by repeat (first | (with_reducible first | exact HB.out | apply below_alloc | apply pw_below_drewN | apply below_drew1) | exact HB.out))) : w.heap.size ≤ gb146)); have n3_ := Aside0.mk ((by rw [hg]; exact (below_size (by repeat (first | (with_reducible first | exact HB.out | apply below_alloc | apply pw_below_drewN | apply below_drew1) | exact HB.out))) : w.heap.size ≤ gb146)); clear HB; have HB := n0_; have BK146 := n1_; have GW146 := n2_; have GE146 := n3_; clear n0_ n1_ n2_ n3_; clear hb hbox hg; have hcz77_0 : w76.cell? ⟨gb146, 0, none⟩ = some (.int .u8 a0_0) := (blk_cell BK146.out 0).trans rfl; have hcz77_1 : w76.cell? ⟨gb146, 1, none⟩ = some (.int .u8 a0_1) := (blk_cell BK146.out 1).trans rfl; have hcz77_2 : w76.cell? ⟨gb146, 2, none⟩ = some (.int .u8 a0_2) := (blk_cell BK146.out 2).trans rfl; have hcz77_3 : w76.cell? ⟨gb146, 3, none⟩ = some (.int .u8 a0_3) := (blk_cell BK146.out 3).trans rfl; have hcz77_4 : w76.cell? ⟨gb146, 4, none⟩ = some (.int .i32 a0_4) := (blk_cell BK146.out 4).trans rfl; have hfz77_0 := blk_frozen BK146.out 0; have hfz77_1 := blk_frozen BK146.out 1; have hfz77_2 := blk_frozen BK146.out 2; have hfz77_3 := blk_frozen BK146.out 3; have hfz77_4 := blk_frozen BK146.out 4) | ((with_reducible refine gate_callee (f := 11) rfl ?_); refine goesL_ (some 10) rfl rfl Tryd.func11 (by kernel_rfl) rfl #[.agg #[.int .u8 a0_0, .int .u8 a0_1, .int .u8 a0_2, .int .u8 a0_3, .int .i32 a0_4]] rfl (by (try simp only [List.map_toArray, List.map_cons, List.map_nil]); first | done | rfl | (simp only [List.length_drop, List.length_take]; rfl)) ?_; (with_reducible refine (isa_Enc.calls k a0_0 a0_1 a0_2 a0_3 a0_4 t147 t148 _ A2.out).mono ?_); rintro e w78 ⟨rfl, hb⟩; refine ⟨_, rfl, ?_⟩; have n0_ := Aside0.mk (blk_below (g := gb146) (o := .cells #[.int .u8 a0_0, .int .u8 a0_1, .int .u8 a0_2, .int .u8 a0_3, .int .i32 a0_4] 23 (0, 0)) (by (with_reducible repeat (first | refine blk_drewN ?_ _ | refine blk_drew ?_ | refine blk_alloc ?_ _)); exact BK146.out) hb); have n1_ := Aside0.mk (below_step (by repeat (first | (with_reducible first | exact HB.out | apply below_alloc | apply pw_below_drewN | apply below_drew1 | refine below_set ?_ GE146.out) | exact HB.out)) hb); clear BK146; clear HB; have BK146 := n0_; have HB := n1_; clear n0_ n1_; (try clear hb); (try clear hb2); (try clear hk); (try clear hi)))
                      have n0_ := Aside0.mk (blk_drew BK146.out)
                      have n1_ := Aside0.mk (below_drew1 HB.out)
                      clear BK146
                      clear HB
                      have BK146 := n0_
                      have HB := n1_
                      clear n0_ n1_
                      refine start_ (n := 7) (S := fun w' => w'.cell? ⟨gb146, 0, none⟩ = some (.int .u8 a0_0) ∧ w'.cell? ⟨gb146, 1, none⟩ = some (.int .u8 a0_1) ∧ w'.cell? ⟨gb146, 2, none⟩ = some (.int .u8 a0_2) ∧ w'.cell? ⟨gb146, 3, none⟩ = some (.int .u8 a0_3) ∧ w'.cell? ⟨gb146, 4, none⟩ = some (.int .i32 a0_4)) (ds := []) #[false, false, false, false, false, false, false] (by kernel_rfl) rfl rfl ⟨(blk_cell BK146.out 0).trans rfl, (blk_cell BK146.out 1).trans rfl, (blk_cell BK146.out 2).trans rfl, (blk_cell BK146.out 3).trans rfl, (blk_cell BK146.out 4).trans rfl⟩ (fun hHeld => ?_)
                      generalize w78.drew = w79 at BK146 HB hHeld ⊢
                      refine pure_ (i := 1) (N := some 16) (v := ?_) (a' := ?_) #[false, true, false, false, false, false, false] rfl rfl (by kernel_rfl) (fun _ _ _ h => h) (Or.inl ⟨by rfl, ?_⟩) ?_ ?_
                      rotate_left
                      · intro w'
                        go_simp
                        with_reducible rfl
                      rotate_left
                      · simp only [Act.put, List.setIfInBounds_toArray, List.set_cons_zero, List.set_cons_succ, i64_w, i32_w]
                        rfl
                      refine take_ (i := 2) (N := some 17) (v := ?_) (a' := ?_) #[false, true, true, false, false, false, false] rfl rfl (by kernel_rfl) (fun _ _ _ h => h) (Or.inl ⟨by rfl, ?_⟩) hHeld ?_ ?_
                      rotate_left
                      · rintro w' ⟨s0, s1, s2, s3, s4⟩
                        go_simp
                        with_reducible rfl
                      rotate_left
                      · simp only [Act.put, List.setIfInBounds_toArray, List.set_cons_zero, List.set_cons_succ, i64_w, i32_w]
                        rfl
                      refine pure_ (i := 3) (N := some 18) (v := ?_) (a' := ?_) #[false, true, true, true, false, false, false] rfl rfl (by kernel_rfl) (fun _ _ _ h => h) (Or.inl ⟨by rfl, ?_⟩) ?_ ?_
                      rotate_left
                      · intro w'
                        go_simp
                        with_reducible rfl
                      rotate_left
                      · simp only [Act.put, List.setIfInBounds_toArray, List.set_cons_zero, List.set_cons_succ, i64_w, i32_w]
                        rfl
                      refine one_ (i := 0) (N := some 15) #[true, true, true, true, false, false, false] rfl rfl (by kernel_rfl) (by decide) (fun K hK => ?_)
                      refine goes_ Tryd.func25 (by kernel_rfl) rfl #[.string (⟨#[97, 100, 100, 32, 115, 117, 98, 32, 109, 117, 108, 32, 100, 105, 118, 32, 114, 101, 109, 32, 97, 110, 100, 32, 111, 114, 32, 120, 111, 114, 32, 115, 104, 108, 32, 115, 104, 114, 32, 115, 97, 114, 32, 115, 108, 116, 32, 115, 108, 116, 117, 32, 97, 100, 100, 105, 32, 97, 110, 100, 105, 32, 111, 114, 105, 32, 120, 111, 114, 105, 32, 115, 108, 116, 105, 32, 108, 117, 105, 32, 108, 119, 32, 108, 98, 32, 108, 98, 117, 32, 115, 119, 32, 115, 98, 32, 98, 101, 113, 32, 98, 110, 101, 32, 98, 108, 116, 32, 98, 108, 116, 117, 32, 106, 97, 108, 32, 106, 97, 108, 114, 32, 115, 121, 115]⟩ : ByteArray), .string (⟨#[32]⟩ : ByteArray)] (by rfl) rfl rfl (by (try simp only [List.map_toArray, List.map_cons, List.map_nil]); first | done | rfl | (simp only [List.length_drop, List.length_take]; rfl)) ?_
                      with_reducible refine (strings_Split.calls (⟨#[97, 100, 100, 32, 115, 117, 98, 32, 109, 117, 108, 32, 100, 105, 118, 32, 114, 101, 109, 32, 97, 110, 100, 32, 111, 114, 32, 120, 111, 114, 32, 115, 104, 108, 32, 115, 104, 114, 32, 115, 97, 114, 32, 115, 108, 116, 32, 115, 108, 116, 117, 32, 97, 100, 100, 105, 32, 97, 110, 100, 105, 32, 111, 114, 105, 32, 120, 111, 114, 105, 32, 115, 108, 116, 105, 32, 108, 117, 105, 32, 108, 119, 32, 108, 98, 32, 108, 98, 117, 32, 115, 119, 32, 115, 98, 32, 98, 101, 113, 32, 98, 110, 101, 32, 98, 108, 116, 32, 98, 108, 116, 117, 32, 106, 97, 108, 32, 106, 97, 108, 114, 32, 115, 121, 115]⟩ : ByteArray) (⟨#[32]⟩ : ByteArray) t149 _ (hL.laid (by repeat (first | (with_reducible first | exact HB.out | apply below_alloc | apply pw_below_drewN | apply below_drew1 | refine below_set ?_ GE146.out) | exact HB.out))) A4.out).mono ?_
                      rintro e w80 ⟨v150, rfl, ho0, hb⟩
                      refine ⟨_, rfl, ?_⟩
                      have n0_ := Aside0.mk (Kd.R_lower ho0 (below_size (by repeat (first | (with_reducible first | exact HB.out | apply below_alloc | apply pw_below_drewN | apply below_drew1 | refine below_set ?_ GE146.out) | exact HB.out))))
                      have n1_ := Aside0.mk (blk_below (g := gb146) (o := .cells #[.int .u8 a0_0, .int .u8 a0_1, .int .u8 a0_2, .int .u8 a0_3, .int .i32 a0_4] 23 (0, 0)) (by (with_reducible repeat (first | refine blk_drewN ?_ _ | refine blk_drew ?_ | refine blk_alloc ?_ _)); exact BK146.out) hb)
                      have n2_ := Aside0.mk (below_step (by repeat (first | (with_reducible first | exact HB.out | apply below_alloc | apply pw_below_drewN | apply below_drew1 | refine below_set ?_ GE146.out) | exact HB.out)) hb)
                      clear BK146
                      clear HB
                      have HO151 := n0_
                      have BK146 := n1_
                      have HB := n2_
                      clear n0_ n1_ n2_
                      (try clear hb)
                      (try clear hb2)
                      (try clear hk)
                      (try clear hi)
                      (try clear ho0)
                      obtain ⟨Ao81, co81, eo81⟩ := Kd.R_slice HO151.out
                      (first | subst eo81 | (injection eo81 with f1_ f2_ f3_; have f4_ := f1_.symm; have f5_ := f3_.symm; clear f1_ f2_ f3_; subst f4_; subst f5_))
                      have p152 : 0 ≤ ((ji5) : Int) := of_decide_eq_true (by first | (with_reducible assumption) | assumption)
                      have q152 : (ji5) < (t149.length : Int) := of_decide_eq_true (by first | (with_reducible assumption) | assumption)
                      obtain ⟨ad152, e152, hx152_0⟩ := Kd.at_string (Kd.R_reads' HO151.out).2.2 (ji5) p152 q152
                      cases e152
                      replace p152 := eq_true p152
                      replace q152 := eq_true q152
                      refine hK.out _ _ ⟨(blk_cell BK146.out 0).trans rfl, (blk_cell BK146.out 1).trans rfl, (blk_cell BK146.out 2).trans rfl, (blk_cell BK146.out 3).trans rfl, (blk_cell BK146.out 4).trans rfl⟩ (fun hHeld => ?_)
                      clear hK K
                      refine norm_ (a' := ?_) ?_ ?_
                      rotate_left
                      · show Act.put _ (some 15) _ = _
                        simp only [Act.put, List.setIfInBounds_toArray, List.set_cons_zero, List.set_cons_succ, i64_w, i32_w]
                        rfl
                      refine pure_ (i := 4) (N := some 19) (v := ?_) (a' := ?_) #[true, true, true, true, true, false, false] rfl rfl (by kernel_rfl) (fun _ _ _ h => h) (Or.inl ⟨by rfl, ?_⟩) ?_ ?_
                      rotate_left
                      · intro w'
                        go_simp
                        with_reducible rfl
                      rotate_left
                      · simp only [Act.put, List.setIfInBounds_toArray, List.set_cons_zero, List.set_cons_succ, i64_w, i32_w]
                        rfl
                      refine one_ (i := 5) (N := some 20) #[true, true, true, true, true, true, false] rfl rfl (by kernel_rfl) (by decide) (fun K hK => ?_)
                      go_wp2
                      refine hK.out _ _ ⟨(blk_cell BK146.out 0).trans rfl, (blk_cell BK146.out 1).trans rfl, (blk_cell BK146.out 2).trans rfl, (blk_cell BK146.out 3).trans rfl, (blk_cell BK146.out 4).trans rfl⟩ (fun hHeld => ?_)
                      clear hK K
                      refine pure_ (i := 6) (N := some 5) (v := ?_) (a' := ?_) #[true, true, true, true, true, true, true] rfl rfl (by kernel_rfl) (fun _ _ _ h => h) (Or.inl ⟨by rfl, ?_⟩) ?_ ?_
                      rotate_left
                      · intro w'
                        go_simp
                        with_reducible rfl
                      rotate_left
                      · simp only [Act.put, List.setIfInBounds_toArray, List.set_cons_zero, List.set_cons_succ, i64_w, i32_w]
                        rfl
                      refine done_ (by kernel_rfl) ?_
                      have hcz82_0 : w80.cell? ⟨gb146, 0, none⟩ = some (.int .u8 a0_0) := (blk_cell BK146.out 0).trans rfl
                      have hcz82_1 : w80.cell? ⟨gb146, 1, none⟩ = some (.int .u8 a0_1) := (blk_cell BK146.out 1).trans rfl
                      have hcz82_2 : w80.cell? ⟨gb146, 2, none⟩ = some (.int .u8 a0_2) := (blk_cell BK146.out 2).trans rfl
                      have hcz82_3 : w80.cell? ⟨gb146, 3, none⟩ = some (.int .u8 a0_3) := (blk_cell BK146.out 3).trans rfl
                      have hcz82_4 : w80.cell? ⟨gb146, 4, none⟩ = some (.int .i32 a0_4) := (blk_cell BK146.out 4).trans rfl
                      have hfz82_0 := blk_frozen BK146.out 0
                      have hfz82_1 := blk_frozen BK146.out 1
                      have hfz82_2 := blk_frozen BK146.out 2
                      have hfz82_3 := blk_frozen BK146.out 3
                      have hfz82_4 := blk_frozen BK146.out 4
                      try go_wp2_with (first | ((with_reducible refine gate_callee (f := 27) rfl ?_); refine goesL_ (some 24) rfl rfl Tryd.func27 (by kernel_rfl) rfl #[.int .i64 (wrap64 (a0_4))] rfl (by (try simp only [List.map_toArray, List.map_cons, List.map_nil]); first | done | rfl | (simp only [List.length_drop, List.length_take]; rfl)) ?_; (with_reducible refine (strconv_Itoa_27.calls (wrap64 (a0_4)) t153 _ (hL.laid (by repeat (first | (with_reducible first | exact HB.out | apply below_alloc | apply pw_below_drewN | apply below_drew1 | refine below_set ?_ GE146.out) | exact HB.out))) A8.out).mono ?_); rintro e w83 ⟨rfl, hb⟩; refine ⟨_, rfl, ?_⟩; have n0_ := Aside0.mk (Kd.R_below (by (with_reducible repeat (first | apply Kd.R_alloc | apply Kd.R_drewN | apply Kd.R_drew)); exact HO151.out) hb); have n1_ := Aside0.mk (blk_below (g := gb146) (o := .cells #[.int .u8 a0_0, .int .u8 a0_1, .int .u8 a0_2, .int .u8 a0_3, .int .i32 a0_4] 23 (0, 0)) (by (with_reducible repeat (first | refine blk_drewN ?_ _ | refine blk_drew ?_ | refine blk_alloc ?_ _)); exact BK146.out) hb); have n2_ := Aside0.mk (below_step (by repeat (first | (with_reducible first | exact HB.out | apply below_alloc | apply pw_below_drewN | apply below_drew1 | refine below_set ?_ GE146.out) | exact HB.out)) hb); clear HO151; clear BK146; clear HB; have HO151 := n0_; have BK146 := n1_; have HB := n2_; clear n0_ n1_ n2_; (try clear hb); (try clear hb2); (try clear hk); (try clear hi); have hcz84_0 : w83.cell? ⟨gb146, 0, none⟩ = some (.int .u8 a0_0) := (blk_cell BK146.out 0).trans rfl; have hcz84_1 : w83.cell? ⟨gb146, 1, none⟩ = some (.int .u8 a0_1) := (blk_cell BK146.out 1).trans rfl; have hcz84_2 : w83.cell? ⟨gb146, 2, none⟩ = some (.int .u8 a0_2) := (blk_cell BK146.out 2).trans rfl; have hcz84_3 : w83.cell? ⟨gb146, 3, none⟩ = some (.int .u8 a0_3) := (blk_cell BK146.out 3).trans rfl; have hcz84_4 : w83.cell? ⟨gb146, 4, none⟩ = some (.int .i32 a0_4) := (blk_cell BK146.out 4).trans rfl; have hfz84_0 := blk_frozen BK146.out 0; have hfz84_1 := blk_frozen BK146.out 1; have hfz84_2 := blk_frozen BK146.out 2; have hfz84_3 := blk_frozen BK146.out 3; have hfz84_4 := blk_frozen BK146.out 4) | ((with_reducible refine gate_callee (f := 19) rfl ?_); refine goesL_ (some 27) rfl rfl Tryd.func19 (by kernel_rfl) rfl #[.int .u8 a0_0] rfl (by (try simp only [List.map_toArray, List.map_cons, List.map_nil]); first | done | rfl | (simp only [List.length_drop, List.length_take]; rfl)) ?_; (with_reducible refine (isa_form.calls a0_0 t154 _ A9.out).mono ?_); rintro e w' ⟨rfl, ⟨nd, rfl⟩⟩; refine ⟨_, rfl, ?_⟩))
                      (try (rw [drewN_self w83]; generalize hq_ : World.drewN w83 _ = w83; have n0_ : Aside0 (Kd.R Kd.string 9 w83 w.heap.size (fun _ => True) (.slice (some ad152) t149.length co81) t149) := ⟨by rw [← hq_]; exact (by (with_reducible repeat (first | apply Kd.R_alloc | apply Kd.R_drewN | apply Kd.R_drew)); exact HO151.out)⟩; have n1_ : Aside0 (w83.heap[gb146]? = some (.cells #[.int .u8 a0_0, .int .u8 a0_1, .int .u8 a0_2, .int .u8 a0_3, .int .i32 a0_4] 23 (0, 0))) := ⟨by rw [← hq_]; exact (by (with_reducible repeat (first | refine blk_drewN ?_ _ | refine blk_drew ?_ | refine blk_alloc ?_ _)); exact BK146.out)⟩; have n2_ : Aside0 (Below w.heap.size w w83) := ⟨by rw [← hq_]; exact (by repeat (first | (with_reducible first | exact HB.out | apply below_alloc | apply pw_below_drewN | apply below_drew1 | refine below_set ?_ GE146.out) | exact HB.out))⟩; clear HO151 BK146 HB hq_; have HO151 := n0_; have BK146 := n1_; have HB := n2_; clear n0_ n1_ n2_))
                      have n0_ := Aside0.mk (Kd.R_drew HO151.out)
                      have n1_ := Aside0.mk (blk_drew BK146.out)
                      have n2_ := Aside0.mk (below_drew1 HB.out)
                      clear HO151
                      clear BK146
                      clear HB
                      have HO151 := n0_
                      have BK146 := n1_
                      have HB := n2_
                      clear n0_ n1_ n2_
                      refine start_ (n := 16) (S := fun w' => w'.cell? ⟨gb146, 0, none⟩ = some (.int .u8 a0_0) ∧ w'.cell? ⟨gb146, 1, none⟩ = some (.int .u8 a0_1) ∧ w'.cell? ⟨gb146, 2, none⟩ = some (.int .u8 a0_2) ∧ w'.cell? ⟨gb146, 3, none⟩ = some (.int .u8 a0_3) ∧ w'.cell? ⟨gb146, 4, none⟩ = some (.int .i32 a0_4)) (ds := []) zb1_Px5 (by kernel_rfl) rfl rfl ⟨(blk_cell BK146.out 0).trans rfl, (blk_cell BK146.out 1).trans rfl, (blk_cell BK146.out 2).trans rfl, (blk_cell BK146.out 3).trans rfl, (blk_cell BK146.out 4).trans rfl⟩ (fun hHeld => ?_); refine with_tabW isa_Text.tab15 isa_Text.bits15 (fun HT_ HW_ => ?_)
                      generalize w83.drew = w85 at HO151 BK146 HB hHeld ⊢
                      refine pure_ (i := 0) (N := some 71) (v := ?_) (a' := ?_) zb2_Px5 rfl rfl (any_of HT_.out (by kernel_rfl)) (fun _ _ _ h => h) (Or.inl ⟨by rfl, ?_⟩) ?_ ?_
                      rotate_left
                      · intro w'
                        go_simp
                        with_reducible rfl
                      rotate_left
                      · simp only [Act.put, List.setIfInBounds_toArray, List.set_cons_zero, List.set_cons_succ, i64_w, i32_w]
                        rfl
                      refine pure_ (i := 1) (N := some 72) (v := ?_) (a' := ?_) zb3_Px5 rfl rfl (any_of HT_.out (by kernel_rfl)) (fun _ _ _ h => h) (Or.inl ⟨by rfl, ?_⟩) ?_ ?_
                      rotate_left
                      · intro w'
                        go_simp
                        with_reducible rfl
                      rotate_left
                      · simp only [Act.put, List.setIfInBounds_toArray, List.set_cons_zero, List.set_cons_succ, i64_w, i32_w]
                        rfl
                      refine pure_ (i := 2) (N := some 73) (v := ?_) (a' := ?_) zb4_Px5 rfl rfl (any_of HT_.out (by kernel_rfl)) (fun _ _ _ h => h) (Or.inl ⟨by rfl, ?_⟩) ?_ ?_
                      rotate_left
                      · intro w'
                        go_simp
                        with_reducible rfl
                      rotate_left
                      · simp only [Act.put, List.setIfInBounds_toArray, List.set_cons_zero, List.set_cons_succ, i64_w, i32_w]
                        rfl
                      refine pure_ (i := 5) (N := some 76) (v := ?_) (a' := ?_) zb5_Px5 rfl rfl (any_of HT_.out (by kernel_rfl)) (fun _ _ _ h => h) (Or.inl ⟨by rfl, ?_⟩) ?_ ?_
                      rotate_left
                      · intro w'
                        go_simp
                        with_reducible rfl
                      rotate_left
                      · simp only [Act.put, List.setIfInBounds_toArray, List.set_cons_zero, List.set_cons_succ, i64_w, i32_w]
                        rfl
                      refine pure_ (i := 6) (N := some 77) (v := ?_) (a' := ?_) zb6_Px5 rfl rfl (any_of HT_.out (by kernel_rfl)) (fun _ _ _ h => h) (Or.inl ⟨by rfl, ?_⟩) ?_ ?_
                      rotate_left
                      · intro w'
                        go_simp
                        with_reducible rfl
                      rotate_left
                      · simp only [Act.put, List.setIfInBounds_toArray, List.set_cons_zero, List.set_cons_succ, i64_w, i32_w]
                        rfl
                      refine pure_ (i := 7) (N := some 78) (v := ?_) (a' := ?_) zb32_Px5 rfl rfl (any_of HT_.out (by kernel_rfl)) (fun _ _ _ h => h) (Or.inl ⟨by rfl, ?_⟩) ?_ ?_
                      rotate_left
                      · intro w'
                        go_simp
                        with_reducible rfl
                      rotate_left
                      · simp only [Act.put, List.setIfInBounds_toArray, List.set_cons_zero, List.set_cons_succ, i64_w, i32_w]
                        rfl
                      refine pure_ (i := 8) (N := some 79) (v := ?_) (a' := ?_) zb33_Px5 rfl rfl (any_of HT_.out (by kernel_rfl)) (fun _ _ _ h => h) (Or.inl ⟨by rfl, ?_⟩) ?_ ?_
                      rotate_left
                      · intro w'
                        go_simp
                        with_reducible rfl
                      rotate_left
                      · simp only [Act.put, List.setIfInBounds_toArray, List.set_cons_zero, List.set_cons_succ, i64_w, i32_w]
                        rfl
                      refine take_ (i := 3) (N := some 74) (v := ?_) (a' := ?_) zb34_Px5 rfl rfl (take_ofW HT_.out HW_.out (by kernel_rfl)) (fun _ _ _ h => h) (Or.inl ⟨by rfl, ?_⟩) hHeld ?_ ?_
                      rotate_left
                      · rintro w' ⟨s0, s1, s2, s3, s4⟩
                        go_simp
                        with_reducible rfl
                      rotate_left
                      · simp only [Act.put, List.setIfInBounds_toArray, List.set_cons_zero, List.set_cons_succ, i64_w, i32_w]
                        rfl
                      refine take_ (i := 9) (N := some 80) (v := ?_) (a' := ?_) zb35_Px5 rfl rfl (take_ofW HT_.out HW_.out (by kernel_rfl)) (fun _ _ _ h => h) (Or.inl ⟨by rfl, ?_⟩) hHeld ?_ ?_
                      rotate_left
                      · rintro w' ⟨s0, s1, s2, s3, s4⟩
                        go_simp
                        with_reducible rfl
                      rotate_left
                      · simp only [Act.put, List.setIfInBounds_toArray, List.set_cons_zero, List.set_cons_succ, i64_w, i32_w]
                        rfl
                      refine one_ (i := 4) (N := some 75) zb36_Px5 rfl rfl (one_of HT_.out (by kernel_rfl)) (by decide) (fun K hK => ?_)
                      refine goesV_ Tryd.func26 (by kernel_rfl) rfl #[.int .u8 a0_1] (by rfl) rfl rfl rfl (by (try simp only [List.map_toArray, List.map_cons, List.map_nil]); first | done | rfl | (simp only [List.length_drop, List.length_take]; rfl)) ?_
                      with_reducible refine (isa_Text_1.calls a0_1 t173 _ (hL.laid (by repeat (first | (with_reducible first | exact HB.out | apply below_alloc | apply pw_below_drewN | apply below_drew1 | refine below_set ?_ GE146.out) | exact HB.out))) A70.out).mono ?_
                      rintro e w86 ⟨rfl, hb⟩
                      refine ⟨_, rfl, ?_⟩
                      have n0_ := Aside0.mk (Kd.R_below (by (with_reducible repeat (first | apply Kd.R_alloc | apply Kd.R_drewN | apply Kd.R_drew)); exact HO151.out) hb)
                      have n1_ := Aside0.mk (blk_below (g := gb146) (o := .cells #[.int .u8 a0_0, .int .u8 a0_1, .int .u8 a0_2, .int .u8 a0_3, .int .i32 a0_4] 23 (0, 0)) (by (with_reducible repeat (first | refine blk_drewN ?_ _ | refine blk_drew ?_ | refine blk_alloc ?_ _)); exact BK146.out) hb)
                      have n2_ := Aside0.mk (below_step (by repeat (first | (with_reducible first | exact HB.out | apply below_alloc | apply pw_below_drewN | apply below_drew1 | refine below_set ?_ GE146.out) | exact HB.out)) hb)
                      clear HO151
                      clear BK146
                      clear HB
                      have HO151 := n0_
                      have BK146 := n1_
                      have HB := n2_
                      clear n0_ n1_ n2_
                      (try clear hb)
                      (try clear hb2)
                      (try clear hk)
                      (try clear hi)
                      refine hK.out _ _ ⟨(blk_cell BK146.out 0).trans rfl, (blk_cell BK146.out 1).trans rfl, (blk_cell BK146.out 2).trans rfl, (blk_cell BK146.out 3).trans rfl, (blk_cell BK146.out 4).trans rfl⟩ (fun hHeld => ?_)
                      clear hK K
                      refine norm_ (a' := ?_) ?_ ?_
                      rotate_left
                      · show Act.put _ (some 75) _ = _
                        simp only [Act.put, List.setIfInBounds_toArray, List.set_cons_zero, List.set_cons_succ, i64_w, i32_w]
                        rfl
                      refine one_ (i := 10) (N := some 81) zb37_Px5 rfl rfl (one_of HT_.out (by kernel_rfl)) (by decide) (fun K hK => ?_)
                      refine goesV_ Tryd.func26 (by kernel_rfl) rfl #[.int .u8 a0_2] (by rfl) rfl rfl rfl (by (try simp only [List.map_toArray, List.map_cons, List.map_nil]); first | done | rfl | (simp only [List.length_drop, List.length_take]; rfl)) ?_
                      with_reducible refine (isa_Text_1.calls a0_2 t174 _ (hL.laid (by repeat (first | (with_reducible first | exact HB.out | apply below_alloc | apply pw_below_drewN | apply below_drew1 | refine below_set ?_ GE146.out) | exact HB.out))) A72.out).mono ?_
                      rintro e w87 ⟨rfl, hb⟩
                      refine ⟨_, rfl, ?_⟩
                      have n0_ := Aside0.mk (Kd.R_below (by (with_reducible repeat (first | apply Kd.R_alloc | apply Kd.R_drewN | apply Kd.R_drew)); exact HO151.out) hb)
                      have n1_ := Aside0.mk (blk_below (g := gb146) (o := .cells #[.int .u8 a0_0, .int .u8 a0_1, .int .u8 a0_2, .int .u8 a0_3, .int .i32 a0_4] 23 (0, 0)) (by (with_reducible repeat (first | refine blk_drewN ?_ _ | refine blk_drew ?_ | refine blk_alloc ?_ _)); exact BK146.out) hb)
                      have n2_ := Aside0.mk (below_step (by repeat (first | (with_reducible first | exact HB.out | apply below_alloc | apply pw_below_drewN | apply below_drew1 | refine below_set ?_ GE146.out) | exact HB.out)) hb)
                      clear HO151
                      clear BK146
                      clear HB
                      have HO151 := n0_
                      have BK146 := n1_
                      have HB := n2_
                      clear n0_ n1_ n2_
                      (try clear hb)
                      (try clear hb2)
                      (try clear hk)
                      (try clear hi)
                      refine hK.out _ _ ⟨(blk_cell BK146.out 0).trans rfl, (blk_cell BK146.out 1).trans rfl, (blk_cell BK146.out 2).trans rfl, (blk_cell BK146.out 3).trans rfl, (blk_cell BK146.out 4).trans rfl⟩ (fun hHeld => ?_)
                      clear hK K
                      refine norm_ (a' := ?_) ?_ ?_
                      rotate_left
                      · show Act.put _ (some 81) _ = _
                        simp only [Act.put, List.setIfInBounds_toArray, List.set_cons_zero, List.set_cons_succ, i64_w, i32_w]
                        rfl
                      refine pure_ (i := 11) (N := some 82) (v := ?_) (a' := ?_) zb13_Px5 rfl rfl (any_of HT_.out (by kernel_rfl)) (fun _ _ _ h => h) (Or.inl ⟨by rfl, ?_⟩) ?_ ?_
                      rotate_left
                      · intro w'
                        go_simp
                        with_reducible rfl
                      rotate_left
                      · simp only [Act.put, List.setIfInBounds_toArray, List.set_cons_zero, List.set_cons_succ, i64_w, i32_w]
                        rfl
                      refine pure_ (i := 12) (N := some 83) (v := ?_) (a' := ?_) zb14_Px5 rfl rfl (any_of HT_.out (by kernel_rfl)) (fun _ _ _ h => h) (Or.inl ⟨by rfl, ?_⟩) ?_ ?_
                      rotate_left
                      · intro w'
                        go_simp
                        with_reducible rfl
                      rotate_left
                      · simp only [Act.put, List.setIfInBounds_toArray, List.set_cons_zero, List.set_cons_succ, i64_w, i32_w]
                        rfl
                      refine one_ (i := 13) (N := some 84) zb15_Px5 rfl rfl (one_of HT_.out (by kernel_rfl)) (by decide) (fun K hK => ?_)
                      refine Kd.R_lit_step Kd.string _ 9 ?hg (N := 84) ?hd (xs := ([t173, ((t153 ++ (⟨#[40]⟩ : ByteArray)) ++ t174) ++ (⟨#[41]⟩ : ByteArray)] : List ByteArray)) (inner := [.string t173, .string (((t153 ++ (⟨#[40]⟩ : ByteArray)) ++ t174) ++ (⟨#[41]⟩ : ByteArray))]) (ok := fun _ => True) (okp := fun _ => True) ?hr ?hp (fun _ hk => hk) trivial (Below.refl _ _) (Nat.le_refl _) (by simp) ?_; (case hd => rfl); (case hg => rfl); (case hr => first | (go_simp; done) | (go_simp; rfl)); (case hp => exact (Reps.one (show Kd.M Kd.string _ _ _ t173 [.string t173] from rfl) (Reps.one (show Kd.M Kd.string _ _ _ (((t153 ++ (⟨#[40]⟩ : ByteArray)) ++ t174) ++ (⟨#[41]⟩ : ByteArray)) [.string (((t153 ++ (⟨#[40]⟩ : ByteArray)) ++ t174) ++ (⟨#[41]⟩ : ByteArray))] from rfl) (Reps.none _ _))))
                      intro v176 w88 ho89 hb hg_ hnew_
                      clear hg_ hnew_
                      (first | rw [← Ny175.out] at ho89 | (simp only [Int.reduceToNat] at ho89; rw [← Ny175.out] at ho89))
                      have n0_ := Aside0.mk (Kd.R_elder' (by (with_reducible repeat (first | apply Kd.R_alloc | apply Kd.R_drewN | apply Kd.R_drew)); exact HO151.out) (Kd.R_base ho89) hb)
                      have n1_ := Aside0.mk (Kd.R_lower (Kd.R_new' ho89 (Kd.R_lt (by (with_reducible repeat (first | apply Kd.R_alloc | apply Kd.R_drewN | apply Kd.R_drew)); exact HO151.out))) (below_size (by repeat (first | (with_reducible first | exact HB.out | apply below_alloc | apply pw_below_drewN | apply below_drew1 | refine below_set ?_ GE146.out) | exact HB.out))))
                      have n2_ := Aside0.mk (blk_below (g := gb146) (o := .cells #[.int .u8 a0_0, .int .u8 a0_1, .int .u8 a0_2, .int .u8 a0_3, .int .i32 a0_4] 23 (0, 0)) (by (with_reducible repeat (first | refine blk_drewN ?_ _ | refine blk_drew ?_ | refine blk_alloc ?_ _)); exact BK146.out) hb)
                      have n3_ := Aside0.mk (below_step (by repeat (first | (with_reducible first | exact HB.out | apply below_alloc | apply pw_below_drewN | apply below_drew1 | refine below_set ?_ GE146.out) | exact HB.out)) hb)
                      clear HO151
                      clear BK146
                      clear HB
                      have HO151 := n0_
                      have HO177 := n1_
                      have BK146 := n2_
                      have HB := n3_
                      clear n0_ n1_ n2_ n3_
                      clear hb ho89
                      obtain ⟨Ao90, co90, eo90⟩ := Kd.R_slice HO177.out
                      (first | subst eo90 | (injection eo90 with f1_ f2_ f3_; have f4_ := f1_.symm; have f5_ := f3_.symm; clear f1_ f2_ f3_; subst f4_; subst f5_))
                      refine hK.out _ _ ⟨(blk_cell BK146.out 0).trans rfl, (blk_cell BK146.out 1).trans rfl, (blk_cell BK146.out 2).trans rfl, (blk_cell BK146.out 3).trans rfl, (blk_cell BK146.out 4).trans rfl⟩ (fun hHeld => ?_)
                      clear hK K
                      refine norm_ (a' := ?_) ?_ ?_
                      rotate_left
                      · show Act.put _ (some 84) _ = _
                        simp only [Act.put, List.setIfInBounds_toArray, List.set_cons_zero, List.set_cons_succ, i64_w, i32_w]
                        rfl
                      refine one_ (i := 14) (N := some 85) zb16_Px5 rfl rfl (one_of HT_.out (by kernel_rfl)) (by decide) (fun K hK => ?_)
                      refine goes_ Tryd.func28 (by kernel_rfl) rfl #[.string (rdOf ByteArray.empty t149 (ji5)), .slice Ao90 y175.length co90] (by rfl) rfl rfl (by (try simp only [List.map_toArray, List.map_cons, List.map_nil]); first | done | (simp only [hji5]; rfl) | rfl | (simp only [List.length_drop, List.length_take]; rfl)) ?_
                      with_reducible refine (isa_line.calls (rdOf ByteArray.empty t149 (ji5)) _ _ y175 t178 _ ?side1 ?side2 A75.out).mono ?_
                      (case side1 => repeat (first | exact (Kd.R_reads' HO177.out).2.2 | (with_reducible refine Kd.C_alloc ?_ _) | (with_reducible refine Kd.C_drewN ?_ _) | (with_reducible refine Kd.C_drew ?_)))
                      (case side2 => exact (Kd.R_reads' HO177.out).2.1)
                      rintro e w91 ⟨rfl, hb⟩
                      refine ⟨_, rfl, ?_⟩
                      have n0_ := Aside0.mk (Kd.R_below (by (with_reducible repeat (first | apply Kd.R_alloc | apply Kd.R_drewN | apply Kd.R_drew)); exact HO151.out) hb)
                      have n1_ := Aside0.mk (Kd.R_below (by (with_reducible repeat (first | apply Kd.R_alloc | apply Kd.R_drewN | apply Kd.R_drew)); exact HO177.out) hb)
                      have n2_ := Aside0.mk (blk_below (g := gb146) (o := .cells #[.int .u8 a0_0, .int .u8 a0_1, .int .u8 a0_2, .int .u8 a0_3, .int .i32 a0_4] 23 (0, 0)) (by (with_reducible repeat (first | refine blk_drewN ?_ _ | refine blk_drew ?_ | refine blk_alloc ?_ _)); exact BK146.out) hb)
                      have n3_ := Aside0.mk (below_step (by repeat (first | (with_reducible first | exact HB.out | apply below_alloc | apply pw_below_drewN | apply below_drew1 | refine below_set ?_ GE146.out) | exact HB.out)) hb)
                      clear HO151
                      clear HO177
                      clear BK146
                      clear HB
                      have HO151 := n0_
                      have HO177 := n1_
                      have BK146 := n2_
                      have HB := n3_
                      clear n0_ n1_ n2_ n3_
                      (try clear hb)
                      (try clear hb2)
                      (try clear hk)
                      (try clear hi)
                      refine hK.out _ _ ⟨(blk_cell BK146.out 0).trans rfl, (blk_cell BK146.out 1).trans rfl, (blk_cell BK146.out 2).trans rfl, (blk_cell BK146.out 3).trans rfl, (blk_cell BK146.out 4).trans rfl⟩ (fun hHeld => ?_)
                      clear hK K
                      refine norm_ (a' := ?_) ?_ ?_
                      rotate_left
                      · show Act.put _ (some 85) _ = _
                        simp only [Act.put, List.setIfInBounds_toArray, List.set_cons_zero, List.set_cons_succ, i64_w, i32_w]
                        rfl
                      refine pure_ (i := 15) (N := some 2) (v := ?_) (a' := ?_) zb17_Px5 rfl rfl (any_of HT_.out (by kernel_rfl)) (fun _ _ _ h => h) (Or.inl ⟨by rfl, ?_⟩) ?_ ?_
                      rotate_left
                      · intro w'
                        go_simp
                        with_reducible rfl
                      rotate_left
                      · simp only [Act.put, List.setIfInBounds_toArray, List.set_cons_zero, List.set_cons_succ, i64_w, i32_w]
                        rfl
                      refine done_ (done_of HT_.out (by kernel_rfl)) ?_
                      try go_wp2
                      go_ret
                      exact ⟨by first | rfl | (simp [errW_none, errW_some] <;> rfl) | (simp only [← hji5]; first | rfl | (simp [errW_none, errW_some] <;> rfl)) | (simp [*, errW_none, errW_some] <;> rfl), by repeat (first | (with_reducible first | exact HB.out | apply below_alloc | apply pw_below_drewN | apply below_drew1 | refine below_set ?_ GE146.out) | exact HB.out)⟩
                    · rw [if_neg c74] at H
                      exact absurd H (by simp)
                  · rw [if_neg c73] at H
                    exact absurd H (by simp)
                · rw [if_neg c71] at H
                  exact absurd H (by simp)
              · rw [if_neg c69] at H
                have c69b0 : (t154 == 109) = false := beq_eq_false_iff_ne.mpr c69
                have c69b1 : (t154 != 109) = true := bne_iff_ne.mpr c69
                obtain ⟨y179, hy179⟩ : ∃ y_ : List ByteArray, y_ = (([t153] : List ByteArray)) := ⟨_, rfl⟩
                replace H : ((isa_line.f (rdOf ByteArray.empty t149 (ji5)) y179).bind fun t182 => (some t182)) = some r := by first | (rw [hy179]; with_reducible exact H) | (have H2_ := (Option.bind_some _ _).symm.trans H; rw [hy179]; with_reducible exact H2_) | (have H2_ := (Option.bind_some _ _).symm.trans H; with_reducible exact H2_) | with_reducible exact H | (rw [hy179]; exact H) | exact H
                have Ny179 := Aside0.mk hy179
                clear hy179
                replace H := Option.bind_eq_some_iff.mp H
                obtain ⟨t182, A920, H⟩ := H
                replace H : (some t182) = some r := H
                have A92 := Aside0.mk A920
                clear A920
                obtain rfl := Option.some.inj H
                go_enter Tryd.func15, Tryd.ntmps15
                try go_wp2_with (first | ((with_reducible refine gate_dst (N := 1) rfl ?_); refine box_event ?hg (N := 1) ?hd (cs := #[.int .u8 a0_0, .int .u8 a0_1, .int .u8 a0_2, .int .u8 a0_3, .int .i32 a0_4]) (t := 23) ?hr ?_; (case hd => rfl); (case hg => rfl); (case hr => first | (go_simp; done) | (go_simp; rfl)); intro gb146 hg w93 hbox hb; have n0_ := Aside0.mk (below_step (by repeat (first | (with_reducible first | exact HB.out | apply below_alloc | apply pw_below_drewN | apply below_drew1) | exact HB.out)) hb); have n1_ := Aside0.mk (hbox); have n2_ := Aside0.mk ((by rw [hg]; exact (below_size (by repeat (first | (with_reducible first | exact HB.out | apply below_alloc | apply pw_below_drewN | apply below_drew1) | exact HB.out))) : w.heap.size ≤ gb146)); have n3_ := Aside0.mk ((by rw [hg]; exact (below_size (by repeat (first | (with_reducible first | exact HB.out | apply below_alloc | apply pw_below_drewN | apply below_drew1) | exact HB.out))) : w.heap.size ≤ gb146)); clear HB; have HB := n0_; have BK146 := n1_; have GW146 := n2_; have GE146 := n3_; clear n0_ n1_ n2_ n3_; clear hb hbox hg; have hcz94_0 : w93.cell? ⟨gb146, 0, none⟩ = some (.int .u8 a0_0) := (blk_cell BK146.out 0).trans rfl; have hcz94_1 : w93.cell? ⟨gb146, 1, none⟩ = some (.int .u8 a0_1) := (blk_cell BK146.out 1).trans rfl; have hcz94_2 : w93.cell? ⟨gb146, 2, none⟩ = some (.int .u8 a0_2) := (blk_cell BK146.out 2).trans rfl; have hcz94_3 : w93.cell? ⟨gb146, 3, none⟩ = some (.int .u8 a0_3) := (blk_cell BK146.out 3).trans rfl; have hcz94_4 : w93.cell? ⟨gb146, 4, none⟩ = some (.int .i32 a0_4) := (blk_cell BK146.out 4).trans rfl; have hfz94_0 := blk_frozen BK146.out 0; have hfz94_1 := blk_frozen BK146.out 1; have hfz94_2 := blk_frozen BK146.out 2; have hfz94_3 := blk_frozen BK146.out 3; have hfz94_4 := blk_frozen BK146.out 4) | ((with_reducible refine gate_callee (f := 11) rfl ?_); refine goesL_ (some 10) rfl rfl Tryd.func11 (by kernel_rfl) rfl #[.agg #[.int .u8 a0_0, .int .u8 a0_1, .int .u8 a0_2, .int .u8 a0_3, .int .i32 a0_4]] rfl (by (try simp only [List.map_toArray, List.map_cons, List.map_nil]); first | done | rfl | (simp only [List.length_drop, List.length_take]; rfl)) ?_; (with_reducible refine (isa_Enc.calls k a0_0 a0_1 a0_2 a0_3 a0_4 t147 t148 _ A2.out).mono ?_); rintro e w95 ⟨rfl, hb⟩; refine ⟨_, rfl, ?_⟩; have n0_ := Aside0.mk (blk_below (g := gb146) (o := .cells #[.int .u8 a0_0, .int .u8 a0_1, .int .u8 a0_2, .int .u8 a0_3, .int .i32 a0_4] 23 (0, 0)) (by (with_reducible repeat (first | refine blk_drewN ?_ _ | refine blk_drew ?_ | refine blk_alloc ?_ _)); exact BK146.out) hb); have n1_ := Aside0.mk (below_step (by repeat (first | (with_reducible first | exact HB.out | apply below_alloc | apply pw_below_drewN | apply below_drew1 | refine below_set ?_ GE146.out) | exact HB.out)) hb); clear BK146; clear HB; have BK146 := n0_; have HB := n1_; clear n0_ n1_; (try clear hb); (try clear hb2); (try clear hk); (try clear hi)))
                have n0_ := Aside0.mk (blk_drew BK146.out)
                have n1_ := Aside0.mk (below_drew1 HB.out)
                clear BK146
                clear HB
                have BK146 := n0_
                have HB := n1_
                clear n0_ n1_
                refine start_ (n := 7) (S := fun w' => w'.cell? ⟨gb146, 0, none⟩ = some (.int .u8 a0_0) ∧ w'.cell? ⟨gb146, 1, none⟩ = some (.int .u8 a0_1) ∧ w'.cell? ⟨gb146, 2, none⟩ = some (.int .u8 a0_2) ∧ w'.cell? ⟨gb146, 3, none⟩ = some (.int .u8 a0_3) ∧ w'.cell? ⟨gb146, 4, none⟩ = some (.int .i32 a0_4)) (ds := []) #[false, false, false, false, false, false, false] (by kernel_rfl) rfl rfl ⟨(blk_cell BK146.out 0).trans rfl, (blk_cell BK146.out 1).trans rfl, (blk_cell BK146.out 2).trans rfl, (blk_cell BK146.out 3).trans rfl, (blk_cell BK146.out 4).trans rfl⟩ (fun hHeld => ?_)
                generalize w95.drew = w96 at BK146 HB hHeld ⊢
                refine pure_ (i := 1) (N := some 16) (v := ?_) (a' := ?_) #[false, true, false, false, false, false, false] rfl rfl (by kernel_rfl) (fun _ _ _ h => h) (Or.inl ⟨by rfl, ?_⟩) ?_ ?_
                rotate_left
                · intro w'
                  go_simp
                  with_reducible rfl
                rotate_left
                · simp only [Act.put, List.setIfInBounds_toArray, List.set_cons_zero, List.set_cons_succ, i64_w, i32_w]
                  rfl
                refine take_ (i := 2) (N := some 17) (v := ?_) (a' := ?_) #[false, true, true, false, false, false, false] rfl rfl (by kernel_rfl) (fun _ _ _ h => h) (Or.inl ⟨by rfl, ?_⟩) hHeld ?_ ?_
                rotate_left
                · rintro w' ⟨s0, s1, s2, s3, s4⟩
                  go_simp
                  with_reducible rfl
                rotate_left
                · simp only [Act.put, List.setIfInBounds_toArray, List.set_cons_zero, List.set_cons_succ, i64_w, i32_w]
                  rfl
                refine pure_ (i := 3) (N := some 18) (v := ?_) (a' := ?_) #[false, true, true, true, false, false, false] rfl rfl (by kernel_rfl) (fun _ _ _ h => h) (Or.inl ⟨by rfl, ?_⟩) ?_ ?_
                rotate_left
                · intro w'
                  go_simp
                  with_reducible rfl
                rotate_left
                · simp only [Act.put, List.setIfInBounds_toArray, List.set_cons_zero, List.set_cons_succ, i64_w, i32_w]
                  rfl
                refine one_ (i := 0) (N := some 15) #[true, true, true, true, false, false, false] rfl rfl (by kernel_rfl) (by decide) (fun K hK => ?_)
                refine goes_ Tryd.func25 (by kernel_rfl) rfl #[.string (⟨#[97, 100, 100, 32, 115, 117, 98, 32, 109, 117, 108, 32, 100, 105, 118, 32, 114, 101, 109, 32, 97, 110, 100, 32, 111, 114, 32, 120, 111, 114, 32, 115, 104, 108, 32, 115, 104, 114, 32, 115, 97, 114, 32, 115, 108, 116, 32, 115, 108, 116, 117, 32, 97, 100, 100, 105, 32, 97, 110, 100, 105, 32, 111, 114, 105, 32, 120, 111, 114, 105, 32, 115, 108, 116, 105, 32, 108, 117, 105, 32, 108, 119, 32, 108, 98, 32, 108, 98, 117, 32, 115, 119, 32, 115, 98, 32, 98, 101, 113, 32, 98, 110, 101, 32, 98, 108, 116, 32, 98, 108, 116, 117, 32, 106, 97, 108, 32, 106, 97, 108, 114, 32, 115, 121, 115]⟩ : ByteArray), .string (⟨#[32]⟩ : ByteArray)] (by rfl) rfl rfl (by (try simp only [List.map_toArray, List.map_cons, List.map_nil]); first | done | rfl | (simp only [List.length_drop, List.length_take]; rfl)) ?_
                with_reducible refine (strings_Split.calls (⟨#[97, 100, 100, 32, 115, 117, 98, 32, 109, 117, 108, 32, 100, 105, 118, 32, 114, 101, 109, 32, 97, 110, 100, 32, 111, 114, 32, 120, 111, 114, 32, 115, 104, 108, 32, 115, 104, 114, 32, 115, 97, 114, 32, 115, 108, 116, 32, 115, 108, 116, 117, 32, 97, 100, 100, 105, 32, 97, 110, 100, 105, 32, 111, 114, 105, 32, 120, 111, 114, 105, 32, 115, 108, 116, 105, 32, 108, 117, 105, 32, 108, 119, 32, 108, 98, 32, 108, 98, 117, 32, 115, 119, 32, 115, 98, 32, 98, 101, 113, 32, 98, 110, 101, 32, 98, 108, 116, 32, 98, 108, 116, 117, 32, 106, 97, 108, 32, 106, 97, 108, 114, 32, 115, 121, 115]⟩ : ByteArray) (⟨#[32]⟩ : ByteArray) t149 _ (hL.laid (by repeat (first | (with_reducible first | exact HB.out | apply below_alloc | apply pw_below_drewN | apply below_drew1 | refine below_set ?_ GE146.out) | exact HB.out))) A4.out).mono ?_
                rintro e w97 ⟨v150, rfl, ho0, hb⟩
                refine ⟨_, rfl, ?_⟩
                have n0_ := Aside0.mk (Kd.R_lower ho0 (below_size (by repeat (first | (with_reducible first | exact HB.out | apply below_alloc | apply pw_below_drewN | apply below_drew1 | refine below_set ?_ GE146.out) | exact HB.out))))
                have n1_ := Aside0.mk (blk_below (g := gb146) (o := .cells #[.int .u8 a0_0, .int .u8 a0_1, .int .u8 a0_2, .int .u8 a0_3, .int .i32 a0_4] 23 (0, 0)) (by (with_reducible repeat (first | refine blk_drewN ?_ _ | refine blk_drew ?_ | refine blk_alloc ?_ _)); exact BK146.out) hb)
                have n2_ := Aside0.mk (below_step (by repeat (first | (with_reducible first | exact HB.out | apply below_alloc | apply pw_below_drewN | apply below_drew1 | refine below_set ?_ GE146.out) | exact HB.out)) hb)
                clear BK146
                clear HB
                have HO151 := n0_
                have BK146 := n1_
                have HB := n2_
                clear n0_ n1_ n2_
                (try clear hb)
                (try clear hb2)
                (try clear hk)
                (try clear hi)
                (try clear ho0)
                obtain ⟨Ao98, co98, eo98⟩ := Kd.R_slice HO151.out
                (first | subst eo98 | (injection eo98 with f1_ f2_ f3_; have f4_ := f1_.symm; have f5_ := f3_.symm; clear f1_ f2_ f3_; subst f4_; subst f5_))
                have p152 : 0 ≤ ((ji5) : Int) := of_decide_eq_true (by first | (with_reducible assumption) | assumption)
                have q152 : (ji5) < (t149.length : Int) := of_decide_eq_true (by first | (with_reducible assumption) | assumption)
                obtain ⟨ad152, e152, hx152_0⟩ := Kd.at_string (Kd.R_reads' HO151.out).2.2 (ji5) p152 q152
                cases e152
                replace p152 := eq_true p152
                replace q152 := eq_true q152
                refine hK.out _ _ ⟨(blk_cell BK146.out 0).trans rfl, (blk_cell BK146.out 1).trans rfl, (blk_cell BK146.out 2).trans rfl, (blk_cell BK146.out 3).trans rfl, (blk_cell BK146.out 4).trans rfl⟩ (fun hHeld => ?_)
                clear hK K
                refine norm_ (a' := ?_) ?_ ?_
                rotate_left
                · show Act.put _ (some 15) _ = _
                  simp only [Act.put, List.setIfInBounds_toArray, List.set_cons_zero, List.set_cons_succ, i64_w, i32_w]
                  rfl
                refine pure_ (i := 4) (N := some 19) (v := ?_) (a' := ?_) #[true, true, true, true, true, false, false] rfl rfl (by kernel_rfl) (fun _ _ _ h => h) (Or.inl ⟨by rfl, ?_⟩) ?_ ?_
                rotate_left
                · intro w'
                  go_simp
                  with_reducible rfl
                rotate_left
                · simp only [Act.put, List.setIfInBounds_toArray, List.set_cons_zero, List.set_cons_succ, i64_w, i32_w]
                  rfl
                refine one_ (i := 5) (N := some 20) #[true, true, true, true, true, true, false] rfl rfl (by kernel_rfl) (by decide) (fun K hK => ?_)
                go_wp2
                refine hK.out _ _ ⟨(blk_cell BK146.out 0).trans rfl, (blk_cell BK146.out 1).trans rfl, (blk_cell BK146.out 2).trans rfl, (blk_cell BK146.out 3).trans rfl, (blk_cell BK146.out 4).trans rfl⟩ (fun hHeld => ?_)
                clear hK K
                refine pure_ (i := 6) (N := some 5) (v := ?_) (a' := ?_) #[true, true, true, true, true, true, true] rfl rfl (by kernel_rfl) (fun _ _ _ h => h) (Or.inl ⟨by rfl, ?_⟩) ?_ ?_
                rotate_left
                · intro w'
                  go_simp
                  with_reducible rfl
                rotate_left
                · simp only [Act.put, List.setIfInBounds_toArray, List.set_cons_zero, List.set_cons_succ, i64_w, i32_w]
                  rfl
                refine done_ (by kernel_rfl) ?_
                have hcz99_0 : w97.cell? ⟨gb146, 0, none⟩ = some (.int .u8 a0_0) := (blk_cell BK146.out 0).trans rfl
                have hcz99_1 : w97.cell? ⟨gb146, 1, none⟩ = some (.int .u8 a0_1) := (blk_cell BK146.out 1).trans rfl
                have hcz99_2 : w97.cell? ⟨gb146, 2, none⟩ = some (.int .u8 a0_2) := (blk_cell BK146.out 2).trans rfl
                have hcz99_3 : w97.cell? ⟨gb146, 3, none⟩ = some (.int .u8 a0_3) := (blk_cell BK146.out 3).trans rfl
                have hcz99_4 : w97.cell? ⟨gb146, 4, none⟩ = some (.int .i32 a0_4) := (blk_cell BK146.out 4).trans rfl
                have hfz99_0 := blk_frozen BK146.out 0
                have hfz99_1 := blk_frozen BK146.out 1
                have hfz99_2 := blk_frozen BK146.out 2
                have hfz99_3 := blk_frozen BK146.out 3
                have hfz99_4 := blk_frozen BK146.out 4
                try go_wp2_with (first | ((with_reducible refine gate_callee (f := 27) rfl ?_); refine goesL_ (some 24) rfl rfl Tryd.func27 (by kernel_rfl) rfl #[.int .i64 (wrap64 (a0_4))] rfl (by (try simp only [List.map_toArray, List.map_cons, List.map_nil]); first | done | rfl | (simp only [List.length_drop, List.length_take]; rfl)) ?_; (with_reducible refine (strconv_Itoa_27.calls (wrap64 (a0_4)) t153 _ (hL.laid (by repeat (first | (with_reducible first | exact HB.out | apply below_alloc | apply pw_below_drewN | apply below_drew1 | refine below_set ?_ GE146.out) | exact HB.out))) A8.out).mono ?_); rintro e w100 ⟨rfl, hb⟩; refine ⟨_, rfl, ?_⟩; have n0_ := Aside0.mk (Kd.R_below (by (with_reducible repeat (first | apply Kd.R_alloc | apply Kd.R_drewN | apply Kd.R_drew)); exact HO151.out) hb); have n1_ := Aside0.mk (blk_below (g := gb146) (o := .cells #[.int .u8 a0_0, .int .u8 a0_1, .int .u8 a0_2, .int .u8 a0_3, .int .i32 a0_4] 23 (0, 0)) (by (with_reducible repeat (first | refine blk_drewN ?_ _ | refine blk_drew ?_ | refine blk_alloc ?_ _)); exact BK146.out) hb); have n2_ := Aside0.mk (below_step (by repeat (first | (with_reducible first | exact HB.out | apply below_alloc | apply pw_below_drewN | apply below_drew1 | refine below_set ?_ GE146.out) | exact HB.out)) hb); clear HO151; clear BK146; clear HB; have HO151 := n0_; have BK146 := n1_; have HB := n2_; clear n0_ n1_ n2_; (try clear hb); (try clear hb2); (try clear hk); (try clear hi); have hcz101_0 : w100.cell? ⟨gb146, 0, none⟩ = some (.int .u8 a0_0) := (blk_cell BK146.out 0).trans rfl; have hcz101_1 : w100.cell? ⟨gb146, 1, none⟩ = some (.int .u8 a0_1) := (blk_cell BK146.out 1).trans rfl; have hcz101_2 : w100.cell? ⟨gb146, 2, none⟩ = some (.int .u8 a0_2) := (blk_cell BK146.out 2).trans rfl; have hcz101_3 : w100.cell? ⟨gb146, 3, none⟩ = some (.int .u8 a0_3) := (blk_cell BK146.out 3).trans rfl; have hcz101_4 : w100.cell? ⟨gb146, 4, none⟩ = some (.int .i32 a0_4) := (blk_cell BK146.out 4).trans rfl; have hfz101_0 := blk_frozen BK146.out 0; have hfz101_1 := blk_frozen BK146.out 1; have hfz101_2 := blk_frozen BK146.out 2; have hfz101_3 := blk_frozen BK146.out 3; have hfz101_4 := blk_frozen BK146.out 4) | ((with_reducible refine gate_callee (f := 19) rfl ?_); refine goesL_ (some 27) rfl rfl Tryd.func19 (by kernel_rfl) rfl #[.int .u8 a0_0] rfl (by (try simp only [List.map_toArray, List.map_cons, List.map_nil]); first | done | rfl | (simp only [List.length_drop, List.length_take]; rfl)) ?_; (with_reducible refine (isa_form.calls a0_0 t154 _ A9.out).mono ?_); rintro e w' ⟨rfl, ⟨nd, rfl⟩⟩; refine ⟨_, rfl, ?_⟩) | ((with_reducible refine gate_dst (N := 88) rfl ?_); refine Kd.R_lit Kd.string _ 9 ?hg (N := 88) ?hd (xs := ([t153] : List ByteArray)) (inner := [.string t153]) (ok := fun _ => True) (okp := fun _ => True) ?hr ?hp (fun _ hk => hk) trivial (Below.refl _ _) (Nat.le_refl _) (by simp) ?_; (case hd => rfl); (case hg => rfl); (case hr => first | (go_simp; done) | (go_simp; rfl)); (case hp => exact (Reps.one (show Kd.M Kd.string _ _ _ t153 [.string t153] from rfl) (Reps.none _ _))); intro v180 w102 ho103 hb hg_ hnew_; clear hg_ hnew_; (first | rw [← Ny179.out] at ho103 | (simp only [Int.reduceToNat] at ho103; rw [← Ny179.out] at ho103)); have n0_ := Aside0.mk (Kd.R_elder' (by (with_reducible repeat (first | apply Kd.R_alloc | apply Kd.R_drewN | apply Kd.R_drew)); exact HO151.out) (Kd.R_base ho103) hb); have n1_ := Aside0.mk (Kd.R_lower (Kd.R_new' ho103 (Kd.R_lt (by (with_reducible repeat (first | apply Kd.R_alloc | apply Kd.R_drewN | apply Kd.R_drew)); exact HO151.out))) (below_size (by repeat (first | (with_reducible first | exact HB.out | apply below_alloc | apply pw_below_drewN | apply below_drew1 | refine below_set ?_ GE146.out) | exact HB.out)))); have n2_ := Aside0.mk (blk_below (g := gb146) (o := .cells #[.int .u8 a0_0, .int .u8 a0_1, .int .u8 a0_2, .int .u8 a0_3, .int .i32 a0_4] 23 (0, 0)) (by (with_reducible repeat (first | refine blk_drewN ?_ _ | refine blk_drew ?_ | refine blk_alloc ?_ _)); exact BK146.out) hb); have n3_ := Aside0.mk (below_step (by repeat (first | (with_reducible first | exact HB.out | apply below_alloc | apply pw_below_drewN | apply below_drew1 | refine below_set ?_ GE146.out) | exact HB.out)) hb); clear HO151; clear BK146; clear HB; have HO151 := n0_; have HO181 := n1_; have BK146 := n2_; have HB := n3_; clear n0_ n1_ n2_ n3_; clear hb ho103; obtain ⟨Ao104, co104, eo104⟩ := Kd.R_slice HO181.out; subst eo104) | ((with_reducible refine gate_callee (f := 28) rfl ?_); refine goesL_ (some 89) rfl rfl Tryd.func28 (by kernel_rfl) rfl #[.string (rdOf ByteArray.empty t149 (ji5)), .slice Ao104 y179.length co104] rfl (by (try simp only [List.map_toArray, List.map_cons, List.map_nil]); first | done | (simp only [hji5]; rfl) | rfl | (simp only [List.length_drop, List.length_take]; rfl)) ?_; (with_reducible refine (isa_line.calls (rdOf ByteArray.empty t149 (ji5)) _ _ y179 t182 _ ?side1 ?side2 A92.out).mono ?_); (case side1 => repeat (first | exact (Kd.R_reads' HO181.out).2.2 | (with_reducible refine Kd.C_alloc ?_ _) | (with_reducible refine Kd.C_drewN ?_ _) | (with_reducible refine Kd.C_drew ?_))); (case side2 => exact (Kd.R_reads' HO181.out).2.1); rintro e w105 ⟨rfl, hb⟩; refine ⟨_, rfl, ?_⟩; have n0_ := Aside0.mk (Kd.R_below (by (with_reducible repeat (first | apply Kd.R_alloc | apply Kd.R_drewN | apply Kd.R_drew)); exact HO151.out) hb); have n1_ := Aside0.mk (Kd.R_below (by (with_reducible repeat (first | apply Kd.R_alloc | apply Kd.R_drewN | apply Kd.R_drew)); exact HO181.out) hb); have n2_ := Aside0.mk (blk_below (g := gb146) (o := .cells #[.int .u8 a0_0, .int .u8 a0_1, .int .u8 a0_2, .int .u8 a0_3, .int .i32 a0_4] 23 (0, 0)) (by (with_reducible repeat (first | refine blk_drewN ?_ _ | refine blk_drew ?_ | refine blk_alloc ?_ _)); exact BK146.out) hb); have n3_ := Aside0.mk (below_step (by repeat (first | (with_reducible first | exact HB.out | apply below_alloc | apply pw_below_drewN | apply below_drew1 | refine below_set ?_ GE146.out) | exact HB.out)) hb); clear HO151; clear HO181; clear BK146; clear HB; have HO151 := n0_; have HO181 := n1_; have BK146 := n2_; have HB := n3_; clear n0_ n1_ n2_ n3_; (try clear hb); (try clear hb2); (try clear hk); (try clear hi)))
                go_ret
                exact ⟨by first | rfl | (simp [errW_none, errW_some] <;> rfl) | (simp only [← hji5]; first | rfl | (simp [errW_none, errW_some] <;> rfl)) | (simp [*, errW_none, errW_some] <;> rfl), by repeat (first | (with_reducible first | exact HB.out | apply below_alloc | apply pw_below_drewN | apply below_drew1 | refine below_set ?_ GE146.out) | exact HB.out)⟩
      · rw [if_neg c7] at H
        exact absurd H (by simp)
    · rw [if_neg c6] at H
      exact absurd H (by simp)
  · rw [if_neg c3] at H
    have c3b0 : (t148 == 0) = false := beq_eq_false_iff_ne.mpr c3
    have c3b1 : (t148 != 0) = true := bne_iff_ne.mpr c3
    obtain rfl := Option.some.inj H
    go_enter Tryd.func15, Tryd.ntmps15
    go_wp2_with (first | ((with_reducible refine gate_dst (N := 1) rfl ?_); refine box_event ?hg (N := 1) ?hd (cs := #[.int .u8 a0_0, .int .u8 a0_1, .int .u8 a0_2, .int .u8 a0_3, .int .i32 a0_4]) (t := 23) ?hr ?_; (case hd => rfl); (case hg => rfl); (case hr => first | (go_simp; done) | (go_simp; rfl)); intro gb146 hg w106 hbox hb; have n0_ := Aside0.mk (below_step (by repeat (first | (with_reducible first | exact HB.out | apply below_alloc | apply pw_below_drewN | apply below_drew1) | exact HB.out)) hb); have n1_ := Aside0.mk (hbox); have n2_ := Aside0.mk ((by rw [hg]; exact (below_size (by repeat (first | (with_reducible first | exact HB.out | apply below_alloc | apply pw_below_drewN | apply below_drew1) | exact HB.out))) : w.heap.size ≤ gb146)); have n3_ := Aside0.mk ((by rw [hg]; exact (below_size (by repeat (first | (with_reducible first | exact HB.out | apply below_alloc | apply pw_below_drewN | apply below_drew1) | exact HB.out))) : w.heap.size ≤ gb146)); clear HB; have HB := n0_; have BK146 := n1_; have GW146 := n2_; have GE146 := n3_; clear n0_ n1_ n2_ n3_; clear hb hbox hg; have hcz107_0 : w106.cell? ⟨gb146, 0, none⟩ = some (.int .u8 a0_0) := (blk_cell BK146.out 0).trans rfl; have hcz107_1 : w106.cell? ⟨gb146, 1, none⟩ = some (.int .u8 a0_1) := (blk_cell BK146.out 1).trans rfl; have hcz107_2 : w106.cell? ⟨gb146, 2, none⟩ = some (.int .u8 a0_2) := (blk_cell BK146.out 2).trans rfl; have hcz107_3 : w106.cell? ⟨gb146, 3, none⟩ = some (.int .u8 a0_3) := (blk_cell BK146.out 3).trans rfl; have hcz107_4 : w106.cell? ⟨gb146, 4, none⟩ = some (.int .i32 a0_4) := (blk_cell BK146.out 4).trans rfl; have hfz107_0 := blk_frozen BK146.out 0; have hfz107_1 := blk_frozen BK146.out 1; have hfz107_2 := blk_frozen BK146.out 2; have hfz107_3 := blk_frozen BK146.out 3; have hfz107_4 := blk_frozen BK146.out 4) | ((with_reducible refine gate_callee (f := 11) rfl ?_); refine goesL_ (some 10) rfl rfl Tryd.func11 (by kernel_rfl) rfl #[.agg #[.int .u8 a0_0, .int .u8 a0_1, .int .u8 a0_2, .int .u8 a0_3, .int .i32 a0_4]] rfl (by (try simp only [List.map_toArray, List.map_cons, List.map_nil]); first | done | rfl | (simp only [List.length_drop, List.length_take]; rfl)) ?_; (with_reducible refine (isa_Enc.calls k a0_0 a0_1 a0_2 a0_3 a0_4 t147 t148 _ A2.out).mono ?_); rintro e w108 ⟨rfl, hb⟩; refine ⟨_, rfl, ?_⟩; have n0_ := Aside0.mk (blk_below (g := gb146) (o := .cells #[.int .u8 a0_0, .int .u8 a0_1, .int .u8 a0_2, .int .u8 a0_3, .int .i32 a0_4] 23 (0, 0)) (by (with_reducible repeat (first | refine blk_drewN ?_ _ | refine blk_drew ?_ | refine blk_alloc ?_ _)); exact BK146.out) hb); have n1_ := Aside0.mk (below_step (by repeat (first | (with_reducible first | exact HB.out | apply below_alloc | apply pw_below_drewN | apply below_drew1 | refine below_set ?_ GE146.out) | exact HB.out)) hb); clear BK146; clear HB; have BK146 := n0_; have HB := n1_; clear n0_ n1_; (try clear hb); (try clear hb2); (try clear hk); (try clear hi)))
    go_ret
    exact ⟨by first | rfl | (simp [errW_none, errW_some] <;> rfl) | (simp [*, errW_none, errW_some] <;> rfl), by repeat (first | (with_reducible first | exact HB.out | apply below_alloc | apply pw_below_drewN | apply below_drew1 | refine below_set ?_ GE146.out) | exact HB.out)⟩
end
end Go.Proofs.YthdfkbkenklcaaaDoor.P
end
