-- Printed for this claim and put together by wip/tools/prune.py.
import Derived.Lib.ItoaLen
import Derived.Test.YthdfkbkenklcaaaDoorCDB7
import Derived.Test.YthdfkbkenklcaaaDoorCDB8
import Derived.Test.YthdfkbkenklcaaaDoorCDB9
set_option linter.unusedVariables false
set_option linter.unusedSimpArgs false
section
set_option linter.unusedSimpArgs false
set_option linter.unusedVariables false
namespace Go.Proofs.YthdfkbkenklcaaaDoor.Q
open Go.RowKit Go.Proofs.YthdfkbkenklcaaaDoor.P Go.Proofs.YthdfkbkenklcaaaDoorW.PrintWords Go.Proofs.YthdfkbkenklcaaaDoorW.PrintLast Go.Proofs.YthdfkbkenklcaaaDoorW.PrintMore
def nmL : List ByteArray := [(⟨#[97, 100, 100]⟩ : ByteArray), (⟨#[115, 117, 98]⟩ : ByteArray), (⟨#[109, 117, 108]⟩ : ByteArray), (⟨#[100, 105, 118]⟩ : ByteArray), (⟨#[114, 101, 109]⟩ : ByteArray), (⟨#[97, 110, 100]⟩ : ByteArray), (⟨#[111, 114]⟩ : ByteArray), (⟨#[120, 111, 114]⟩ : ByteArray), (⟨#[115, 104, 108]⟩ : ByteArray), (⟨#[115, 104, 114]⟩ : ByteArray), (⟨#[115, 97, 114]⟩ : ByteArray), (⟨#[115, 108, 116]⟩ : ByteArray), (⟨#[115, 108, 116, 117]⟩ : ByteArray), (⟨#[97, 100, 100, 105]⟩ : ByteArray), (⟨#[97, 110, 100, 105]⟩ : ByteArray), (⟨#[111, 114, 105]⟩ : ByteArray), (⟨#[120, 111, 114, 105]⟩ : ByteArray), (⟨#[115, 108, 116, 105]⟩ : ByteArray), (⟨#[108, 117, 105]⟩ : ByteArray), (⟨#[108, 119]⟩ : ByteArray), (⟨#[108, 98]⟩ : ByteArray), (⟨#[108, 98, 117]⟩ : ByteArray), (⟨#[115, 119]⟩ : ByteArray), (⟨#[115, 98]⟩ : ByteArray), (⟨#[98, 101, 113]⟩ : ByteArray), (⟨#[98, 110, 101]⟩ : ByteArray), (⟨#[98, 108, 116]⟩ : ByteArray), (⟨#[98, 108, 116, 117]⟩ : ByteArray), (⟨#[106, 97, 108]⟩ : ByteArray), (⟨#[106, 97, 108, 114]⟩ : ByteArray), (⟨#[115, 121, 115]⟩ : ByteArray)]
def namesB : ByteArray := (⟨#[97, 100, 100, 32, 115, 117, 98, 32, 109, 117, 108, 32, 100, 105, 118, 32, 114, 101, 109, 32, 97, 110, 100, 32, 111, 114, 32, 120, 111, 114, 32, 115, 104, 108, 32, 115, 104, 114, 32, 115, 97, 114, 32, 115, 108, 116, 32, 115, 108, 116, 117, 32, 97, 100, 100, 105, 32, 97, 110, 100, 105, 32, 111, 114, 105, 32, 120, 111, 114, 105, 32, 115, 108, 116, 105, 32, 108, 117, 105, 32, 108, 119, 32, 108, 98, 32, 108, 98, 117, 32, 115, 119, 32, 115, 98, 32, 98, 101, 113, 32, 98, 110, 101, 32, 98, 108, 116, 32, 98, 108, 116, 117, 32, 106, 97, 108, 32, 106, 97, 108, 114, 32, 115, 121, 115]⟩ : ByteArray)
theorem split_eq : strings_Split.f namesB (⟨#[32]⟩ : ByteArray) = some nmL := by kernel_rfl
def nm (o : Int) : ByteArray := rdOf ByteArray.empty nmL (o - 1)
def itb (n : Int) : ByteArray := ⟨(Lib.itoa n).toArray⟩
def rg (n : Int) : ByteArray := (⟨#[114]⟩ : ByteArray) ++ itb n
def txt (o a b c n : Int) : ByteArray :=
  if (encOf o a b c n).2 = 0 then
    (if frm o = 114 then nm o ++ (⟨#[32]⟩ : ByteArray) ++ rg a ++ (⟨#[44, 32]⟩ : ByteArray) ++ rg b ++ (⟨#[44, 32]⟩ : ByteArray) ++ rg c
    else if frm o = 105 then nm o ++ (⟨#[32]⟩ : ByteArray) ++ rg a ++ (⟨#[44, 32]⟩ : ByteArray) ++ rg b ++ (⟨#[44, 32]⟩ : ByteArray) ++ itb n
    else if frm o = 108 then nm o ++ (⟨#[32]⟩ : ByteArray) ++ rg a ++ (⟨#[44, 32]⟩ : ByteArray) ++ itb n
    else if frm o = 109 then nm o ++ (⟨#[32]⟩ : ByteArray) ++ rg a ++ (⟨#[44, 32]⟩ : ByteArray) ++ itb n ++ (⟨#[40]⟩ : ByteArray) ++ rg b ++ (⟨#[41]⟩ : ByteArray)
    else nm o ++ (⟨#[32]⟩ : ByteArray) ++ itb n)
  else (⟨#[]⟩ : ByteArray)
theorem itb_size (n : Int) (h0 : -9223372036854775808 ≤ n) (h1 : n ≤ 9223372036854775807) : (itb n).size ≤ 21 := by
  have := Lib.itoa_length_le n h0 h1
  show (Lib.itoa n).toArray.size ≤ 21
  simpa using this
theorem rg_size (n : Int) (h0 : -9223372036854775808 ≤ n) (h1 : n ≤ 9223372036854775807) : (rg n).size ≤ 22 := by
  have := itb_size n h0 h1
  unfold rg
  rw [ByteArray.size_append]
  have : (⟨#[114]⟩ : ByteArray).size = 1 := rfl
  omega
theorem nm_sizes : ∀ m : Fin 31, (nm ((m.val : Int) + 1)).size ≤ 5 := by decide +kernel
theorem nm_size (o : Int) (h0 : 1 ≤ o) (h1 : o ≤ 31) : (nm o).size ≤ 5 := by
  have := nm_sizes ⟨(o - 1).toNat, by omega⟩
  have e : (((o - 1).toNat : Nat) : Int) + 1 = o := by omega
  simp only [e] at this
  exact this
theorem itoa_eq (n : Int) (h0 : -9223372036854775808 ≤ n) (h1 : n ≤ 9223372036854775807) : strconv_Itoa_27.f n = some (itb n) := by
  unfold strconv_Itoa_27.f
  rw [if_pos ⟨h0, h1⟩]; rfl
theorem reg_eq (n : Int) (h0 : 0 ≤ n) (h1 : n < 256) : isa_Text_1.f n = some (rg n) := by
  unfold isa_Text_1.f
  rw [wrap64_id (by omega) (by omega), itoa_eq n (by omega) (by omega), Option.bind_some]
  have := itb_size n (by omega) (by omega)
  rw [if_pos (by omega)]; rfl
theorem app_assoc (x y z : ByteArray) : x ++ y ++ z = x ++ (y ++ z) := by
  apply ByteArray.ext; simp [ByteArray.data_append]
theorem join_list (l : List ByteArray) (s : ByteArray) (r : ByteArray) (h1 : 1 ≤ l.length) (h2 : l.length ≤ 1000) (h3 : (⟨(Lib.join (l.map (·.data.toList)) s.data.toList).toArray⟩ : ByteArray) = r) (h4 : r.size ≤ 100000) : strings_Join.f l s = some r := by
  unfold strings_Join.f
  have : (Lib.join (l.map (·.data.toList)) s.data.toList).length = r.size := by rw [← h3]; show _ = (Lib.join _ _).toArray.size; simp
  rw [if_pos ⟨h1, by omega, by omega⟩, h3]
theorem join1 (x s : ByteArray) : (⟨(Lib.join ([x].map (·.data.toList)) s.data.toList).toArray⟩ : ByteArray) = x := by
  apply ByteArray.ext; simp [Lib.join, List.intercalate]
theorem join2 (x y s : ByteArray) : (⟨(Lib.join ([x, y].map (·.data.toList)) s.data.toList).toArray⟩ : ByteArray) = x ++ s ++ y := by
  apply ByteArray.ext; simp [Lib.join, List.intercalate, ByteArray.data_append]
theorem join3 (x y z s : ByteArray) : (⟨(Lib.join ([x, y, z].map (·.data.toList)) s.data.toList).toArray⟩ : ByteArray) = x ++ s ++ y ++ s ++ z := by
  apply ByteArray.ext; simp [Lib.join, List.intercalate, ByteArray.data_append]
theorem line_eq (m : ByteArray) (l : List ByteArray) (r : ByteArray) (hm : m.size ≤ 100) (hr : r.size ≤ 1000) (h : strings_Join.f l (⟨#[44, 32]⟩ : ByteArray) = some r) : isa_line.f m l = some (m ++ (⟨#[32]⟩ : ByteArray) ++ r) := by
  unfold isa_line.f
  have e : (⟨#[32]⟩ : ByteArray).size = 1 := rfl
  rw [if_pos (by omega), h, Option.bind_some, if_pos (by rw [ByteArray.size_append]; omega)]
set_option maxRecDepth 100000 in
theorem text_ev (o a b c n : Int) (o0 : 0 ≤ o) (o1 : o < 256) (a0 : 0 ≤ a) (a1 : a < 256) (b0 : 0 ≤ b) (b1 : b < 256) (c0 : 0 ≤ c) (c1 : c < 256) (n0 : -2147483648 ≤ n) (n1 : n ≤ 2147483647) :
    Ev (fun k => isa_Text.f k o a b c n) (txt o a b c n) := by
  have Sp : strings_Split.f (⟨#[97, 100, 100, 32, 115, 117, 98, 32, 109, 117, 108, 32, 100, 105, 118, 32, 114, 101, 109, 32, 97, 110, 100, 32, 111, 114, 32, 120, 111, 114, 32, 115, 104, 108, 32, 115, 104, 114, 32, 115, 97, 114, 32, 115, 108, 116, 32, 115, 108, 116, 117, 32, 97, 100, 100, 105, 32, 97, 110, 100, 105, 32, 111, 114, 105, 32, 120, 111, 114, 105, 32, 115, 108, 116, 105, 32, 108, 117, 105, 32, 108, 119, 32, 108, 98, 32, 108, 98, 117, 32, 115, 119, 32, 115, 98, 32, 98, 101, 113, 32, 98, 110, 101, 32, 98, 108, 116, 32, 98, 108, 116, 117, 32, 106, 97, 108, 32, 106, 97, 108, 114, 32, 115, 121, 115]⟩ : ByteArray) (⟨#[32]⟩ : ByteArray) = some nmL := split_eq
  unfold isa_Text.f txt
  rw [Sp]
  simp only [Option.bind_some]
  refine Ev.bind (enc_ev o a b c n o0 o1 a0 b0 c0) ?_
  by_cases h : (encOf o a b c n).2 = 0
  · simp only [if_pos h]
    have hw : encOf o a b c n = ((encOf o a b c n).1, 0) := by rw [← h]
    obtain ⟨hf, _, _, _⟩ := enc_ok hw
    obtain ⟨g0, g1⟩ := frm_ne hf
    have h5 := frm_lt hf
    have e1 : (o - 1) % 256 = o - 1 := by omega
    have e2 : ((nmL.length : Nat) : Int) = 31 := rfl
    have sn := nm_size o g0 g1
    have si := itb_size n (by omega) (by omega)
    have sa := rg_size a (by omega) (by omega)
    have sb := rg_size b (by omega) (by omega)
    have sc := rg_size c (by omega) (by omega)
    have z1 : (⟨#[44, 32]⟩ : ByteArray).size = 2 := rfl
    have z2 : (⟨#[40]⟩ : ByteArray).size = 1 := rfl
    have z3 : (⟨#[41]⟩ : ByteArray).size = 1 := rfl
    have en : rdOf ByteArray.empty nmL (o - 1) = nm o := rfl
    simp only [e1, e2, en]
    rw [if_pos (by omega), if_pos (by omega), wrap64_id (by omega) (by omega), itoa_eq n (by omega) (by omega), form_eq o o0 o1, reg_eq a a0 a1, reg_eq b b0 b1, reg_eq c c0 c1]
    simp only [Option.bind_some]
    by_cases f1 : frm o = 114
    · rw [if_pos f1, if_pos f1, line_eq (nm o) _ _ (by omega) ?_ (join_list _ _ _ (by simp) (by simp) (join3 _ _ _ _) ?_)]
      · simp only [Option.bind_some, app_assoc]; exact Ev.now _
      · simp only [ByteArray.size_append]; omega
      · simp only [ByteArray.size_append]; omega
    rw [if_neg f1, if_neg f1]
    by_cases f2 : frm o = 105
    · rw [if_pos f2, if_pos f2, line_eq (nm o) _ _ (by omega) ?_ (join_list _ _ _ (by simp) (by simp) (join3 _ _ _ _) ?_)]
      · simp only [Option.bind_some, app_assoc]; exact Ev.now _
      · simp only [ByteArray.size_append]; omega
      · simp only [ByteArray.size_append]; omega
    rw [if_neg f2, if_neg f2]
    by_cases f3 : frm o = 108
    · rw [if_pos f3, if_pos f3, line_eq (nm o) _ _ (by omega) ?_ (join_list _ _ _ (by simp) (by simp) (join2 _ _ _) ?_)]
      · simp only [Option.bind_some, app_assoc]; exact Ev.now _
      · simp only [ByteArray.size_append]; omega
      · simp only [ByteArray.size_append]; omega
    rw [if_neg f3, if_neg f3]
    by_cases f4 : frm o = 109
    · rw [if_pos f4, if_pos f4, if_pos (by omega), if_pos (by rw [ByteArray.size_append]; omega), if_pos (by simp only [ByteArray.size_append]; omega), line_eq (nm o) _ _ (by omega) ?_ (join_list _ _ _ (by simp) (by simp) (join2 _ _ _) ?_)]
      · simp only [Option.bind_some, app_assoc]; exact Ev.now _
      · simp only [ByteArray.size_append]; omega
      · simp only [ByteArray.size_append]; omega
    rw [if_neg f4, if_neg f4]
    rw [line_eq (nm o) _ _ (by omega) ?_ (join_list _ _ _ (by simp) (by simp) (join1 _ _) ?_)]
    · simp only [Option.bind_some, app_assoc]; exact Ev.now _
    · omega
    · omega
  · simp only [if_neg h]
    exact Ev.now _
end Go.Proofs.YthdfkbkenklcaaaDoor.Q
end
