-- Printed for this claim and put together by wip/tools/prune.py.
import Derived.Lib.ItoaLen
import Derived.Test.YthdfkbkenklcaaaDoorCTO1
import Derived.Test.YthdfkbkenklcaaaDoorCTO2
import Derived.Test.YthdfkbkenklcaaaDoorCTO3
import Derived.Test.YthdfkbkenklcaaaDoorCTO5
import Derived.Test.YthdfkbkenklcaaaDoorCTO6
import Derived.Test.YthdfkbkenklcaaaDoorCTO7
import Derived.Test.YthdfkbkenklcaaaDoorCTO8
import Derived.Test.YthdfkbkenklcaaaDoorCTO9
set_option linter.unusedVariables false
set_option linter.unusedSimpArgs false
section
set_option linter.unusedSimpArgs false
set_option linter.unusedVariables false
namespace Go.Proofs.YthdfkbkenklcaaaDoor.Q
open Go.RowKit Go.Proofs.YthdfkbkenklcaaaDoor.P Go.Proofs.YthdfkbkenklcaaaDoorW.PrintWords Go.Proofs.YthdfkbkenklcaaaDoorW.PrintLast Go.Proofs.YthdfkbkenklcaaaDoorW.PrintMore
def nmL : List ByteArray := [(⟨#[97, 100, 100]⟩ : ByteArray), (⟨#[115, 117, 98]⟩ : ByteArray), (⟨#[109, 117, 108]⟩ : ByteArray), (⟨#[100, 105, 118]⟩ : ByteArray), (⟨#[114, 101, 109]⟩ : ByteArray), (⟨#[97, 110, 100]⟩ : ByteArray), (⟨#[111, 114]⟩ : ByteArray), (⟨#[120, 111, 114]⟩ : ByteArray), (⟨#[115, 104, 108]⟩ : ByteArray), (⟨#[115, 104, 114]⟩ : ByteArray), (⟨#[115, 97, 114]⟩ : ByteArray), (⟨#[115, 108, 116]⟩ : ByteArray), (⟨#[115, 108, 116, 117]⟩ : ByteArray), (⟨#[97, 100, 100, 105]⟩ : ByteArray), (⟨#[97, 110, 100, 105]⟩ : ByteArray), (⟨#[111, 114, 105]⟩ : ByteArray), (⟨#[120, 111, 114, 105]⟩ : ByteArray), (⟨#[115, 108, 116, 105]⟩ : ByteArray), (⟨#[108, 117, 105]⟩ : ByteArray), (⟨#[108, 119]⟩ : ByteArray), (⟨#[108, 98]⟩ : ByteArray), (⟨#[108, 98, 117]⟩ : ByteArray), (⟨#[115, 119]⟩ : ByteArray), (⟨#[115, 98]⟩ : ByteArray), (⟨#[98, 101, 113]⟩ : ByteArray), (⟨#[98, 110, 101]⟩ : ByteArray), (⟨#[98, 108, 116]⟩ : ByteArray), (⟨#[98, 108, 116, 117]⟩ : ByteArray), (⟨#[106, 97, 108]⟩ : ByteArray), (⟨#[106, 97, 108, 114]⟩ : ByteArray), (⟨#[115, 121, 115]⟩ : ByteArray)]
def namesB : ByteArray := (⟨#[97, 100, 100, 32, 115, 117, 98, 32, 109, 117, 108, 32, 100, 105, 118, 32, 114, 101, 109, 32, 97, 110, 100, 32, 111, 114, 32, 120, 111, 114, 32, 115, 104, 108, 32, 115, 104, 114, 32, 115, 97, 114, 32, 115, 108, 116, 32, 115, 108, 116, 117, 32, 97, 100, 100, 105, 32, 97, 110, 100, 105, 32, 111, 114, 105, 32, 120, 111, 114, 105, 32, 115, 108, 116, 105, 32, 108, 117, 105, 32, 108, 119, 32, 108, 98, 32, 108, 98, 117, 32, 115, 119, 32, 115, 98, 32, 98, 101, 113, 32, 98, 110, 101, 32, 98, 108, 116, 32, 98, 108, 116, 117, 32, 106, 97, 108, 32, 106, 97, 108, 114, 32, 115, 121, 115]⟩ : ByteArray)
theorem names_eq : hibernacleref10_names.f = some nmL := rfl
theorem split_eq : strings_Split.f namesB (⟨#[32]⟩ : ByteArray) = some nmL := by kernel_rfl
def nm (o : Int) : ByteArray := rdOf ByteArray.empty nmL (o - 1)
def itb (n : Int) : ByteArray := ⟨(Lib.itoa n).toArray⟩
def rg (n : Int) : ByteArray := (⟨#[114]⟩ : ByteArray) ++ itb n
def txt (o a b c n : Int) : ByteArray :=
  if (encOf o a b c n).2 = 0 then
    (if frm o = 114 then nm o ++ (⟨#[32]⟩ : ByteArray) ++ rg a ++ (⟨#[44, 32]⟩ : ByteArray) ++ rg b ++ (⟨#[44, 32]⟩ : ByteArray) ++ rg c
    else if frm o = 105 then nm o ++ (⟨#[32]⟩ : ByteArray) ++ rg a ++ (⟨#[44, 32]⟩ : ByteArray) ++ rg b ++ (⟨#[44, 32]⟩ : ByteArray) ++ itb n
    else if frm o = 108 then nm o ++ (⟨#[32]⟩ : ByteArray) ++ rg a ++ (⟨#[44, 32]⟩ : ByteArray) ++ itb n
    else if frm o = 109 then nm o ++ (⟨#[32]⟩ : ByteArray) ++ rg a ++ (⟨#[44, 32]⟩ : ByteArray) ++ itb n ++ (⟨#[40]⟩ : ByteArray) ++ rg b ++ (⟨#[41]⟩ : ByteArray)
    else nm o ++ (⟨#[32]⟩ : ByteArray) ++ itb n)
  else (⟨#[]⟩ : ByteArray)
theorem itb_size (n : Int) (h0 : -9223372036854775808 ≤ n) (h1 : n ≤ 9223372036854775807) : (itb n).size ≤ 21 := by
  have := Lib.itoa_length_le n h0 h1
  show (Lib.itoa n).toArray.size ≤ 21
  simpa using this
theorem rg_size (n : Int) (h0 : -9223372036854775808 ≤ n) (h1 : n ≤ 9223372036854775807) : (rg n).size ≤ 22 := by
  have := itb_size n h0 h1
  unfold rg
  rw [ByteArray.size_append]
  have : (⟨#[114]⟩ : ByteArray).size = 1 := rfl
  omega
theorem nm_sizes : ∀ m : Fin 31, (nm ((m.val : Int) + 1)).size ≤ 5 := by decide +kernel
theorem nm_size (o : Int) (h0 : 1 ≤ o) (h1 : o ≤ 31) : (nm o).size ≤ 5 := by
  have := nm_sizes ⟨(o - 1).toNat, by omega⟩
  have e : (((o - 1).toNat : Nat) : Int) + 1 = o := by omega
  simp only [e] at this
  exact this
theorem itoa_eq (n : Int) (h0 : -9223372036854775808 ≤ n) (h1 : n ≤ 9223372036854775807) : strconv_Itoa_27.f n = some (itb n) := by
  unfold strconv_Itoa_27.f
  rw [if_pos ⟨h0, h1⟩]; rfl
theorem reg_eq (n : Int) (h0 : 0 ≤ n) (h1 : n < 256) : isa_Text_1.f n = some (rg n) := by
  unfold isa_Text_1.f
  rw [wrap64_id (by omega) (by omega), itoa_eq n (by omega) (by omega), Option.bind_some]
  have := itb_size n (by omega) (by omega)
  rw [if_pos (by omega)]; rfl
theorem mk_app (x y : List UInt8) : (⟨(x ++ y).toArray⟩ : ByteArray) = ⟨x.toArray⟩ ++ ⟨y.toArray⟩ := by
  apply ByteArray.ext
  simp [ByteArray.data_append]
theorem app_assoc (x y z : ByteArray) : x ++ y ++ z = x ++ (y ++ z) := by
  apply ByteArray.ext; simp [ByteArray.data_append]
theorem join_list (l : List ByteArray) (s : ByteArray) (r : ByteArray) (h1 : 1 ≤ l.length) (h2 : l.length ≤ 1000) (h3 : (⟨(Lib.join (l.map (·.data.toList)) s.data.toList).toArray⟩ : ByteArray) = r) (h4 : r.size ≤ 100000) : strings_Join.f l s = some r := by
  unfold strings_Join.f
  have : (Lib.join (l.map (·.data.toList)) s.data.toList).length = r.size := by rw [← h3]; show _ = (Lib.join _ _).toArray.size; simp
  rw [if_pos ⟨h1, by omega, by omega⟩, h3]
theorem join1 (x s : ByteArray) : (⟨(Lib.join ([x].map (·.data.toList)) s.data.toList).toArray⟩ : ByteArray) = x := by
  apply ByteArray.ext; simp [Lib.join, List.intercalate]
theorem join2 (x y s : ByteArray) : (⟨(Lib.join ([x, y].map (·.data.toList)) s.data.toList).toArray⟩ : ByteArray) = x ++ s ++ y := by
  apply ByteArray.ext; simp [Lib.join, List.intercalate, ByteArray.data_append]
theorem join3 (x y z s : ByteArray) : (⟨(Lib.join ([x, y, z].map (·.data.toList)) s.data.toList).toArray⟩ : ByteArray) = x ++ s ++ y ++ s ++ z := by
  apply ByteArray.ext; simp [Lib.join, List.intercalate, ByteArray.data_append]
theorem line_eq (m : ByteArray) (l : List ByteArray) (r : ByteArray) (hm : m.size ≤ 100) (hr : r.size ≤ 1000) (h : strings_Join.f l (⟨#[44, 32]⟩ : ByteArray) = some r) : isa_line.f m l = some (m ++ (⟨#[32]⟩ : ByteArray) ++ r) := by
  unfold isa_line.f
  have e : (⟨#[32]⟩ : ByteArray).size = 1 := rfl
  rw [if_pos (by omega), h, Option.bind_some, if_pos (by rw [ByteArray.size_append]; omega)]
set_option maxRecDepth 100000 in
theorem text_ev (o a b c n : Int) (o0 : 0 ≤ o) (o1 : o < 256) (a0 : 0 ≤ a) (a1 : a < 256) (b0 : 0 ≤ b) (b1 : b < 256) (c0 : 0 ≤ c) (c1 : c < 256) (n0 : -2147483648 ≤ n) (n1 : n ≤ 2147483647) :
    Ev (fun k => isa_Text.f k o a b c n) (txt o a b c n) := by
  have Sp : strings_Split.f (⟨#[97, 100, 100, 32, 115, 117, 98, 32, 109, 117, 108, 32, 100, 105, 118, 32, 114, 101, 109, 32, 97, 110, 100, 32, 111, 114, 32, 120, 111, 114, 32, 115, 104, 108, 32, 115, 104, 114, 32, 115, 97, 114, 32, 115, 108, 116, 32, 115, 108, 116, 117, 32, 97, 100, 100, 105, 32, 97, 110, 100, 105, 32, 111, 114, 105, 32, 120, 111, 114, 105, 32, 115, 108, 116, 105, 32, 108, 117, 105, 32, 108, 119, 32, 108, 98, 32, 108, 98, 117, 32, 115, 119, 32, 115, 98, 32, 98, 101, 113, 32, 98, 110, 101, 32, 98, 108, 116, 32, 98, 108, 116, 117, 32, 106, 97, 108, 32, 106, 97, 108, 114, 32, 115, 121, 115]⟩ : ByteArray) (⟨#[32]⟩ : ByteArray) = some nmL := split_eq
  unfold isa_Text.f txt
  rw [Sp]
  simp only [Option.bind_some]
  refine Ev.bind (enc_ev o a b c n o0 o1 a0 b0 c0) ?_
  by_cases h : (encOf o a b c n).2 = 0
  · simp only [if_pos h]
    have hw : encOf o a b c n = ((encOf o a b c n).1, 0) := by rw [← h]
    obtain ⟨hf, _, _, _⟩ := enc_ok hw
    obtain ⟨g0, g1⟩ := frm_ne hf
    have h5 := frm_lt hf
    have e1 : (o - 1) % 256 = o - 1 := by omega
    have e2 : ((nmL.length : Nat) : Int) = 31 := rfl
    have sn := nm_size o g0 g1
    have si := itb_size n (by omega) (by omega)
    have sa := rg_size a (by omega) (by omega)
    have sb := rg_size b (by omega) (by omega)
    have sc := rg_size c (by omega) (by omega)
    have z1 : (⟨#[44, 32]⟩ : ByteArray).size = 2 := rfl
    have z2 : (⟨#[40]⟩ : ByteArray).size = 1 := rfl
    have z3 : (⟨#[41]⟩ : ByteArray).size = 1 := rfl
    have en : rdOf ByteArray.empty nmL (o - 1) = nm o := rfl
    simp only [e1, e2, en]
    rw [if_pos (by omega), if_pos (by omega), wrap64_id (by omega) (by omega), itoa_eq n (by omega) (by omega), form_eq o o0 o1, reg_eq a a0 a1, reg_eq b b0 b1, reg_eq c c0 c1]
    simp only [Option.bind_some]
    by_cases f1 : frm o = 114
    · rw [if_pos f1, if_pos f1, line_eq (nm o) _ _ (by omega) ?_ (join_list _ _ _ (by simp) (by simp) (join3 _ _ _ _) ?_)]
      · simp only [Option.bind_some, app_assoc]; exact Ev.now _
      · simp only [ByteArray.size_append]; omega
      · simp only [ByteArray.size_append]; omega
    rw [if_neg f1, if_neg f1]
    by_cases f2 : frm o = 105
    · rw [if_pos f2, if_pos f2, line_eq (nm o) _ _ (by omega) ?_ (join_list _ _ _ (by simp) (by simp) (join3 _ _ _ _) ?_)]
      · simp only [Option.bind_some, app_assoc]; exact Ev.now _
      · simp only [ByteArray.size_append]; omega
      · simp only [ByteArray.size_append]; omega
    rw [if_neg f2, if_neg f2]
    by_cases f3 : frm o = 108
    · rw [if_pos f3, if_pos f3, line_eq (nm o) _ _ (by omega) ?_ (join_list _ _ _ (by simp) (by simp) (join2 _ _ _) ?_)]
      · simp only [Option.bind_some, app_assoc]; exact Ev.now _
      · simp only [ByteArray.size_append]; omega
      · simp only [ByteArray.size_append]; omega
    rw [if_neg f3, if_neg f3]
    by_cases f4 : frm o = 109
    · rw [if_pos f4, if_pos f4, if_pos (by omega), if_pos (by rw [ByteArray.size_append]; omega), if_pos (by simp only [ByteArray.size_append]; omega), line_eq (nm o) _ _ (by omega) ?_ (join_list _ _ _ (by simp) (by simp) (join2 _ _ _) ?_)]
      · simp only [Option.bind_some, app_assoc]; exact Ev.now _
      · simp only [ByteArray.size_append]; omega
      · simp only [ByteArray.size_append]; omega
    rw [if_neg f4, if_neg f4]
    rw [line_eq (nm o) _ _ (by omega) ?_ (join_list _ _ _ (by simp) (by simp) (join1 _ _) ?_)]
    · simp only [Option.bind_some, app_assoc]; exact Ev.now _
    · omega
    · omega
  · simp only [if_neg h]
    exact Ev.now _
end Go.Proofs.YthdfkbkenklcaaaDoor.Q
end
section
set_option linter.unusedSimpArgs false
set_option linter.unusedVariables false
namespace Go.Proofs.YthdfkbkenklcaaaDoor.Q
open Go.RowKit Go.Proofs.YthdfkbkenklcaaaDoor.P Go.Proofs.YthdfkbkenklcaaaDoorW.PrintWords Go.Proofs.YthdfkbkenklcaaaDoorW.PrintLast Go.Proofs.YthdfkbkenklcaaaDoorW.PrintMore
def dgb (m : Nat) : ByteArray := ⟨(Lib.decDigits m).toArray⟩
theorem dgb_size (m : Nat) (h : m ≤ 9223372036854775807) : (dgb m).size ≤ 21 := by
  have := Lib.itoa_length_le (m : Int) (by omega) (by omega)
  rw [Lib.itoa_nonneg] at this
  show (Lib.decDigits m).toArray.size ≤ 21
  simpa using this
theorem dgb_ones : ∀ m : Fin 10, (⟨#[48, 49, 50, 51, 52, 53, 54, 55, 56, 57]⟩ : ByteArray).extract m.val (m.val + 1) = dgb m.val := by decide +kernel
theorem dgb_step {m : Nat} (h : ¬ m < 10) : dgb m = dgb (m / 10) ++ dgb (m % 10) := by
  unfold dgb
  rw [← mk_app, Lib.decDigits, dif_neg h, Lib.decDigits_one (show m % 10 < 10 by omega)]
theorem ref_digits : ∀ m : Nat, m ≤ 2147483646 → Ev (fun k => hibernacleref10_dec.f k (m : Int)) (dgb m) := by
  intro m
  induction m using Nat.strongRecOn with
  | _ m ih =>
  intro hm
  by_cases h : m < 10
  · refine Ev.step (f := fun _ => some (dgb m)) (fun k => ?_) (Ev.now _)
    have e := dgb_ones ⟨m, h⟩
    have e1 : wrap32 ((m : Int) + 1) = ((m + 1 : Nat) : Int) := by unfold wrap32; omega
    simp only [hibernacleref10_dec.f, e1]
    rw [if_neg (by omega), if_pos (by omega), if_pos (by omega), if_pos (by omega), if_pos (by omega), ← e]
    rfl
  · have t1 : Int.tdiv (m : Int) 10 = ((m / 10 : Nat) : Int) := by rw [Int.tdiv_eq_ediv_of_nonneg (by omega)]; omega
    have t2 : Int.tmod (m : Int) 10 = ((m % 10 : Nat) : Int) := by rw [Int.tmod_eq_emod_of_nonneg (by omega)]; omega
    have e1 : wrap32 ((m / 10 : Nat) : Int) = ((m / 10 : Nat) : Int) := by unfold wrap32; omega
    refine Ev.step (f := fun k => (hibernacleref10_dec.f k ((m / 10 : Nat) : Int)).bind fun t283 => (hibernacleref10_dec.f k ((m % 10 : Nat) : Int)).bind fun t284 => if t283.size + t284.size ≤ 9223372036854775807 then some (t283 ++ t284) else none) (fun k => ?_) ?_
    · simp only [hibernacleref10_dec.f, t1, t2, e1]
      rw [if_neg (by omega), if_neg (by omega)]
    · refine Ev.bind (ih (m / 10) (by omega) (by omega)) (Ev.bind (ih (m % 10) (by omega) (by omega)) ?_)
      have s1 := dgb_size (m / 10) (by omega)
      have s2 := dgb_size (m % 10) (by omega)
      refine Ev.congr (fun k => if_pos (by omega)) ?_
      rw [← dgb_step h]
      exact Ev.now _
theorem itb_pos (m : Nat) : itb (m : Int) = dgb m := by unfold itb dgb; rw [Lib.itoa_nonneg]
theorem ref_dec_ev' (n : Int) (h0 : -2147483646 ≤ n) (h1 : n ≤ 2147483646) : Ev (fun k => hibernacleref10_dec.f k n) (itb n) := by
  by_cases h : n < 0
  · obtain ⟨m, rfl⟩ : ∃ m : Nat, n = -(m : Int) := ⟨n.natAbs, by omega⟩
    refine Ev.step (f := fun k => (hibernacleref10_dec.f k (m : Int)).bind fun t282 => if 1 + t282.size ≤ 9223372036854775807 then some ((⟨#[45]⟩ : ByteArray) ++ t282) else none) (fun k => ?_) ?_
    · have e : wrap32 (-(-(m : Int))) = (m : Int) := by unfold wrap32; omega
      simp only [hibernacleref10_dec.f, e]
      rw [if_pos h]
    · refine Ev.bind (ref_digits m (by omega)) ?_
      have s1 := dgb_size m (by omega)
      refine Ev.congr (fun k => if_pos (by omega)) ?_
      have : itb (-(m : Int)) = (⟨#[45]⟩ : ByteArray) ++ dgb m := by
        unfold itb dgb
        rw [Lib.itoa_neg m (by omega)]
        exact mk_app [45] _
      rw [this]
      exact Ev.now _
  · obtain ⟨m, rfl⟩ : ∃ m : Nat, n = (m : Int) := ⟨n.toNat, by omega⟩
    rw [itb_pos]
    exact ref_digits m (by omega)
theorem ref_reg (n : Int) (h0 : 0 ≤ n) (h1 : n < 256) : Ev (fun k => hibernacleref10_reg.f k n) (rg n) := by
  unfold hibernacleref10_reg.f
  have e : wrap32 n = n := by unfold wrap32; omega
  simp only [e]
  refine Ev.bind (ref_dec_ev' n (by omega) (by omega)) ?_
  have s1 := itb_size n (by omega) (by omega)
  exact Ev.congr (fun k => if_pos (by omega)) (Ev.now _)
theorem num_small {o a b c n w : Int} (h : encOf o a b c n = (w, 0)) : -32768 ≤ n ∧ n ≤ 65535 := by
  obtain ⟨hf, hb, hn, _⟩ := enc_ok h
  obtain ⟨_, _, _, _, _, _, h7⟩ := bad_no hb
  by_cases hr : frm o = 114
  · have := h7 hr; omega
  · have := hn hr
    unfold fit at this
    split at this <;> rw [decide_eq_true_eq] at this <;> omega
set_option maxRecDepth 100000 in
theorem ref_text_ev (o a b c n : Int) (o0 : 0 ≤ o) (o1 : o < 256) (a0 : 0 ≤ a) (a1 : a < 256) (b0 : 0 ≤ b) (b1 : b < 256) (c0 : 0 ≤ c) (c1 : c < 256) :
    Ev (fun k => hibernacleref10_Text.f k o a b c n) (txt o a b c n) := by
  unfold hibernacleref10_Text.f txt
  rw [names_eq]
  simp only [Option.bind_some]
  refine Ev.bind (ref_enc_ev o a b c n o0 o1 a0 b0 c0) ?_
  by_cases h : (encOf o a b c n).2 = 0
  · simp only [if_pos h]
    have hw : encOf o a b c n = ((encOf o a b c n).1, 0) := by rw [← h]
    obtain ⟨hf, _, _, _⟩ := enc_ok hw
    obtain ⟨n0, n1⟩ := num_small hw
    obtain ⟨g0, g1⟩ := frm_ne hf
    have h5 := frm_lt hf
    have e1 : (o - 1) % 256 = o - 1 := by omega
    have e2 : ((nmL.length : Nat) : Int) = 31 := rfl
    have sn := nm_size o g0 g1
    have si := itb_size n (by omega) (by omega)
    have sa := rg_size a (by omega) (by omega)
    have sb := rg_size b (by omega) (by omega)
    have sc := rg_size c (by omega) (by omega)
    have z0 : (⟨#[32]⟩ : ByteArray).size = 1 := rfl
    have z1 : (⟨#[44, 32]⟩ : ByteArray).size = 2 := rfl
    have z2 : (⟨#[40]⟩ : ByteArray).size = 1 := rfl
    have z3 : (⟨#[41]⟩ : ByteArray).size = 1 := rfl
    have en : rdOf ByteArray.empty nmL (o - 1) = nm o := rfl
    have Ra := ref_reg a a0 a1
    have Rb := ref_reg b b0 b1
    have Rc := ref_reg c c0 c1
    have Rn := ref_dec_ev' n (by omega) (by omega)
    simp only [e1, e2, en]
    refine Ev.congr (fun k => if_pos (by omega)) (Ev.congr (fun k => if_pos (by omega)) (Ev.congr (fun k => if_pos (by omega)) (Ev.bind (ref_form o o0 o1) ?_)))
    by_cases f1 : frm o = 114
    · have t : rfm o = 1 := by unfold rfm; rw [if_pos f1]
      simp only [t, if_pos f1]
      refine Ev.congr (fun k => if_pos trivial) (Ev.bind Ra ?_)
      refine Ev.congr (fun k => if_pos (by simp only [ByteArray.size_append]; omega)) (Ev.congr (fun k => if_pos (by simp only [ByteArray.size_append]; omega)) (Ev.bind Rb ?_))
      refine Ev.congr (fun k => if_pos (by simp only [ByteArray.size_append]; omega)) (Ev.congr (fun k => if_pos (by simp only [ByteArray.size_append]; omega)) (Ev.bind Rc ?_))
      exact Ev.congr (fun k => if_pos (by simp only [ByteArray.size_append]; omega)) (Ev.now _)
    by_cases f2 : frm o = 105
    · have t : rfm o = 2 := by unfold rfm; rw [if_neg f1, if_pos f2]
      simp only [t, if_neg f1, if_pos f2]
      refine Ev.congr (fun k => if_neg (by decide)) (Ev.congr (fun k => if_pos trivial) (Ev.bind Ra ?_))
      refine Ev.congr (fun k => if_pos (by simp only [ByteArray.size_append]; omega)) (Ev.congr (fun k => if_pos (by simp only [ByteArray.size_append]; omega)) (Ev.bind Rb ?_))
      refine Ev.congr (fun k => if_pos (by simp only [ByteArray.size_append]; omega)) (Ev.congr (fun k => if_pos (by simp only [ByteArray.size_append]; omega)) (Ev.bind Rn ?_))
      exact Ev.congr (fun k => if_pos (by simp only [ByteArray.size_append]; omega)) (Ev.now _)
    by_cases f3 : frm o = 108
    · have t : rfm o = 3 := by unfold rfm; rw [if_neg f1, if_neg f2, if_pos f3]
      simp only [t, if_neg f1, if_neg f2, if_pos f3]
      refine Ev.congr (fun k => if_neg (by decide)) (Ev.congr (fun k => if_neg (by decide)) (Ev.congr (fun k => if_pos trivial) (Ev.bind Ra ?_)))
      refine Ev.congr (fun k => if_pos (by simp only [ByteArray.size_append]; omega)) (Ev.congr (fun k => if_pos (by simp only [ByteArray.size_append]; omega)) (Ev.bind Rn ?_))
      exact Ev.congr (fun k => if_pos (by simp only [ByteArray.size_append]; omega)) (Ev.now _)
    by_cases f4 : frm o = 109
    · have t : rfm o = 4 := by unfold rfm; rw [if_neg f1, if_neg f2, if_neg f3, if_pos f4]
      simp only [t, if_neg f1, if_neg f2, if_neg f3, if_pos f4]
      refine Ev.congr (fun k => if_neg (by decide)) (Ev.congr (fun k => if_neg (by decide)) (Ev.congr (fun k => if_neg (by decide)) (Ev.congr (fun k => if_pos trivial) (Ev.bind Ra ?_))))
      refine Ev.congr (fun k => if_pos (by simp only [ByteArray.size_append]; omega)) (Ev.congr (fun k => if_pos (by simp only [ByteArray.size_append]; omega)) (Ev.bind Rn ?_))
      refine Ev.congr (fun k => if_pos (by simp only [ByteArray.size_append]; omega)) (Ev.congr (fun k => if_pos (by simp only [ByteArray.size_append]; omega)) (Ev.bind Rb ?_))
      refine Ev.congr (fun k => if_pos (by simp only [ByteArray.size_append]; omega)) (Ev.congr (fun k => if_pos (by simp only [ByteArray.size_append]; omega)) (Ev.now _))
    have f5 : frm o = 110 := by omega
    have t : rfm o = 5 := by unfold rfm; rw [if_neg f1, if_neg f2, if_neg f3, if_neg f4, if_pos f5]
    simp only [t, if_neg f1, if_neg f2, if_neg f3, if_neg f4]
    refine Ev.congr (fun k => if_neg (by decide)) (Ev.congr (fun k => if_neg (by decide)) (Ev.congr (fun k => if_neg (by decide)) (Ev.congr (fun k => if_neg (by decide)) (Ev.bind Rn ?_))))
    exact Ev.congr (fun k => if_pos (by simp only [ByteArray.size_append]; omega)) (Ev.now _)
  · simp only [if_neg h]
    exact Ev.now _
end Go.Proofs.YthdfkbkenklcaaaDoor.Q
end
section
namespace Go.Proofs.YthdfkbkenklcaaaDoor.P
open Go.RowKit Go.Proofs.YthdfkbkenklcaaaDoorW.PrintWords Go.Proofs.YthdfkbkenklcaaaDoorW.PrintLast Go.Proofs.YthdfkbkenklcaaaDoorW.PrintMore
attribute [local go_sem] isSome_setCell_eq max2_int min2_int max_two min_two max_three min_three max_four min_four
set_option linter.unusedVariables false
set_option linter.unusedSimpArgs false
attribute [local go_sem high] eqA23
def hibernaclelaw10_IsaEnc.f (k : Nat) (a0_0 : Int) (a0_1 : Int) (a0_2 : Int) (a0_3 : Int) (a0_4 : Int) : Option (Bool) := (hibernaclelaw10_alive.f k).bind fun t199 => (if t199 = true then ((isa_Enc.f k a0_0 a0_1 a0_2 a0_3 a0_4).bind fun bt200 => ((hibernacleref10_Enc.f k a0_0 a0_1 a0_2 a0_3 a0_4).bind fun bt202 => (if bt200.1 = bt202.1 then (if bt200.2 = bt202.2 then ((isa_Dec.f k bt200.1).bind fun bt204 => (if bt200.2 = 0 then (if bt204.2.2.2.2.2 = true then (some (bt204.1 == a0_0 && (bt204.2.1 == a0_1 && (bt204.2.2.1 == a0_2 && (bt204.2.2.2.1 == a0_3 && (bt204.2.2.2.2.1 == a0_4)))))) else (some false)) else (some true))) else (some false)) else (some false)))) else (some false))
theorem hibernaclelaw10_IsaEnc.mono : ∀ a0 a1 a2 a3 a4 k, LeO (hibernaclelaw10_IsaEnc.f k a0 a1 a2 a3 a4) (hibernaclelaw10_IsaEnc.f (k + 1) a0 a1 a2 a3 a4) := by
  intro a0 a1 a2 a3 a4 k
  unfold hibernaclelaw10_IsaEnc.f
  repeat' first
      | (with_reducible exact hibernaclelaw10_alive.mono _)
      | (with_reducible exact hibernacleref10_Enc.mono _ _ _ _ _ _)
      | (with_reducible exact isa_Dec.mono _ _)
      | (with_reducible exact isa_Enc.mono _ _ _ _ _ _)
      | (with_reducible exact LeO.refl _)
      | (with_reducible exact LeO.none _)
      | (with_reducible refine LeO.ite ?_ ?_)
      | (with_reducible refine LeO.bind ?_ (fun _ => ?_))
      | exact hibernaclelaw10_alive.mono _
      | exact hibernacleref10_Enc.mono _ _ _ _ _ _
      | exact isa_Dec.mono _ _
      | exact isa_Enc.mono _ _ _ _ _ _
      | exact LeO.none _
      | refine LeO.ite ?_ ?_
      | refine LeO.bind ?_ (fun _ => ?_)
def hibernacleref10_Dec.j0 : Nat → Int → Bool → Int → Int → Int → Int → Int → Option (Int × Int × Int × Int × Int × Bool)
  | 0, _, _, _, _, _, _, _ => none
  | k + 1, x0, x40, x213000, x213001, x213002, x213003, x213004 => if x40 = true then ((hibernacleref10_Enc.f k x213000 x213001 x213002 x213003 (wrap32 (x213004 - 65536))).bind fun bt217 => (if bt217.2 = 0 then (if bt217.1 = x0 then (some (x213000, x213001, x213002, x213003, wrap32 (x213004 - 65536), true)) else (some (0, 0, 0, 0, 0, false))) else (some (0, 0, 0, 0, 0, false)))) else ((hibernacleref10_Enc.f k x213000 x213001 x213002 x213003 x213004).bind fun bt219 => (if bt219.2 = 0 then (if bt219.1 = x0 then (some (x213000, x213001, x213002, x213003, x213004, true)) else (some (0, 0, 0, 0, 0, false))) else (some (0, 0, 0, 0, 0, false))))
def hibernacleref10_Dec.f (k : Nat) (a0 : Int) : Option (Int × Int × Int × Int × Int × Bool) := (hibernacleref10_Form.f k ((Int.tdiv a0 67108864) % 256)).bind fun t213 => (if t213 = 1 then ((hibernacleref10_Enc.f k ((Int.tdiv a0 67108864) % 256) ((Int.tdiv a0 4194304) % 16) ((Int.tdiv a0 262144) % 16) ((Int.tdiv a0 16384) % 16) 0).bind fun bt214 => (if bt214.2 = 0 then (if bt214.1 = a0 then (some ((Int.tdiv a0 67108864) % 256, (Int.tdiv a0 4194304) % 16, (Int.tdiv a0 262144) % 16, (Int.tdiv a0 16384) % 16, 0, true)) else (some (0, 0, 0, 0, 0, false))) else (some (0, 0, 0, 0, 0, false)))) else (if (wrap32 (Int.tmod a0 65536)) > 32767 then ((hibernacleref10_plain.f ((Int.tdiv a0 67108864) % 256)).bind fun t216 => (hibernacleref10_Dec.j0 k a0 (!t216) ((Int.tdiv a0 67108864) % 256) ((Int.tdiv a0 4194304) % 16) ((Int.tdiv a0 262144) % 16) 0 (wrap32 (Int.tmod a0 65536)))) else (hibernacleref10_Dec.j0 k a0 false ((Int.tdiv a0 67108864) % 256) ((Int.tdiv a0 4194304) % 16) ((Int.tdiv a0 262144) % 16) 0 (wrap32 (Int.tmod a0 65536)))))
theorem hibernacleref10_Dec.mono_l : ∀ k, (∀ y0 y1 y2 y3 y4 y5 y6, LeO (hibernacleref10_Dec.j0 k y0 y1 y2 y3 y4 y5 y6) (hibernacleref10_Dec.j0 (k + 1) y0 y1 y2 y3 y4 y5 y6))
  | 0 => fun _ _ _ _ _ _ _ r h => by simp [hibernacleref10_Dec.j0] at h
  | k + 1 => by
    have ih0 := hibernacleref10_Dec.mono_l k
    · intro y0 y1 y2 y3 y4 y5 y6
      unfold hibernacleref10_Dec.j0
      repeat' first
      | (with_reducible exact ih0 _ _ _ _ _ _ _)
      | (with_reducible exact hibernacleref10_Enc.mono _ _ _ _ _ _)
      | (with_reducible exact hibernacleref10_Form.mono _ _)
      | (with_reducible exact LeO.refl _)
      | (with_reducible exact LeO.none _)
      | (with_reducible refine LeO.ite ?_ ?_)
      | (with_reducible refine LeO.bind ?_ (fun _ => ?_))
      | exact ih0 _ _ _ _ _ _ _
      | exact hibernacleref10_Enc.mono _ _ _ _ _ _
      | exact hibernacleref10_Form.mono _ _
      | exact LeO.none _
      | refine LeO.ite ?_ ?_
      | refine LeO.bind ?_ (fun _ => ?_)
theorem hibernacleref10_Dec.mono : ∀ a0 k, LeO (hibernacleref10_Dec.f k a0) (hibernacleref10_Dec.f (k + 1) a0) := by
  intro a0 k
  have ih0 := hibernacleref10_Dec.mono_l k
  unfold hibernacleref10_Dec.f
  repeat' first
      | (with_reducible exact ih0 _ _ _ _ _ _ _)
      | (with_reducible exact hibernacleref10_Enc.mono _ _ _ _ _ _)
      | (with_reducible exact hibernacleref10_Form.mono _ _)
      | (with_reducible exact LeO.refl _)
      | (with_reducible exact LeO.none _)
      | (with_reducible refine LeO.ite ?_ ?_)
      | (with_reducible refine LeO.bind ?_ (fun _ => ?_))
      | exact ih0 _ _ _ _ _ _ _
      | exact hibernacleref10_Enc.mono _ _ _ _ _ _
      | exact hibernacleref10_Form.mono _ _
      | exact LeO.none _
      | refine LeO.ite ?_ ?_
      | refine LeO.bind ?_ (fun _ => ?_)
def hibernaclelaw10_IsaDec.f (k : Nat) (a0 : Int) : Option (Bool) := (hibernaclelaw10_alive.f k).bind fun t221 => (if t221 = true then ((isa_Dec.f k a0).bind fun bt222 => ((hibernacleref10_Dec.f k a0).bind fun bt229 => (if (!(bt222.1 == bt229.1) || (!(bt222.2.1 == bt229.2.1) || (!(bt222.2.2.1 == bt229.2.2.1) || (!(bt222.2.2.2.1 == bt229.2.2.2.1) || (!(bt222.2.2.2.2.1 == bt229.2.2.2.2.1)))))) = true then (some false) else (if (bt222.2.2.2.2.2 != bt229.2.2.2.2.2) = true then (some false) else ((isa_Enc.f k bt222.1 bt222.2.1 bt222.2.2.1 bt222.2.2.2.1 bt222.2.2.2.2.1).bind fun bt236 => (if bt222.2.2.2.2.2 = true then (if bt236.2 = 0 then (some (bt236.1 == a0)) else (some false)) else (if (bt222.1 == 0 && (bt222.2.1 == 0 && (bt222.2.2.1 == 0 && (bt222.2.2.2.1 == 0 && (bt222.2.2.2.2.1 == 0))))) = true then (some true) else (some false)))))))) else (some false))
theorem hibernaclelaw10_IsaDec.mono : ∀ a0 k, LeO (hibernaclelaw10_IsaDec.f k a0) (hibernaclelaw10_IsaDec.f (k + 1) a0) := by
  intro a0 k
  unfold hibernaclelaw10_IsaDec.f
  repeat' first
      | (with_reducible exact hibernaclelaw10_alive.mono _)
      | (with_reducible exact hibernacleref10_Dec.mono _ _)
      | (with_reducible exact isa_Dec.mono _ _)
      | (with_reducible exact isa_Enc.mono _ _ _ _ _ _)
      | (with_reducible exact LeO.refl _)
      | (with_reducible exact LeO.none _)
      | (with_reducible refine LeO.ite ?_ ?_)
      | (with_reducible refine LeO.bind ?_ (fun _ => ?_))
      | exact hibernaclelaw10_alive.mono _
      | exact hibernacleref10_Dec.mono _ _
      | exact isa_Dec.mono _ _
      | exact isa_Enc.mono _ _ _ _ _ _
      | exact LeO.none _
      | refine LeO.ite ?_ ?_
      | refine LeO.bind ?_ (fun _ => ?_)
end Go.Proofs.YthdfkbkenklcaaaDoor.P
end
section
set_option linter.unusedSimpArgs false
set_option linter.unusedVariables false
namespace Go.Proofs.YthdfkbkenklcaaaDoor.Q
open Go.RowKit Go.Proofs.YthdfkbkenklcaaaDoor.P Go.Proofs.YthdfkbkenklcaaaDoorW.PrintWords Go.Proofs.YthdfkbkenklcaaaDoorW.PrintLast Go.Proofs.YthdfkbkenklcaaaDoorW.PrintMore
theorem al1 : encOf 1 1 2 3 0 = (71876608, 0) := by decide +kernel
theorem al2 : encOf 31 0 0 0 5 = (2080374789, 0) := by decide +kernel
theorem al3 : decOf 0 = (0, 0, 0, 0, 0, false) := by decide +kernel
theorem al4 : (txt 20 1 2 0 4).toList = ([108, 119, 32, 114, 49, 44, 32, 52, 40, 114, 50, 41] : List UInt8) := by decide +kernel
theorem alive_ev : Ev (fun k => hibernaclelaw10_alive.f k) true := by
  unfold hibernaclelaw10_alive.f
  have h1 := enc_ev 1 1 2 3 0 (by omega) (by omega) (by omega) (by omega) (by omega)
  have h2 := enc_ev 31 0 0 0 5 (by omega) (by omega) (by omega) (by omega) (by omega)
  have h3 := dec_all 0 (by omega) (by omega)
  have h4 := text_ev 20 1 2 0 4 (by omega) (by omega) (by omega) (by omega) (by omega) (by omega) (by omega) (by omega) (by omega) (by omega)
  rw [al1] at h1
  rw [al2] at h2
  rw [al3] at h3
  refine Ev.bind h1 (Ev.bind h2 (Ev.bind h3 ?_))
  simp only [if_pos, Bool.false_eq_true, if_false]
  refine Ev.bind h4 ?_
  rw [al4]
  exact Ev.now _
end Go.Proofs.YthdfkbkenklcaaaDoor.Q
end
section
namespace Go.Proofs.YthdfkbkenklcaaaDoor.P
open Go.RowKit Go.Proofs.YthdfkbkenklcaaaDoorW.PrintWords Go.Proofs.YthdfkbkenklcaaaDoorW.PrintLast Go.Proofs.YthdfkbkenklcaaaDoorW.PrintMore
attribute [local go_sem] isSome_setCell_eq max2_int min2_int max_two min_two max_three min_three max_four min_four
set_option linter.unusedVariables false
set_option linter.unusedSimpArgs false
def isa_Op.l0 : Nat → ByteArray → List ByteArray → Int → Int → Option (Int × Bool)
  | 0, _, _, _, _ => none
  | k + 1, x0, x6, x7, x8 => if x8 < x7 then (if 0 ≤ x8 then (if x8 < (x6.length : Int) then (if (rdOf ByteArray.empty x6 x8).toList = x0.toList then (some ((wrap64 (x8 + 1)) % 256, true)) else (isa_Op.l0 k x0 x6 x7 (wrap64 (x8 + 1)))) else (none)) else (none)) else (some (0, false))
def isa_Op.f (k : Nat) (a0 : ByteArray) : Option (Int × Bool) := (strings_Split.f (⟨#[97, 100, 100, 32, 115, 117, 98, 32, 109, 117, 108, 32, 100, 105, 118, 32, 114, 101, 109, 32, 97, 110, 100, 32, 111, 114, 32, 120, 111, 114, 32, 115, 104, 108, 32, 115, 104, 114, 32, 115, 97, 114, 32, 115, 108, 116, 32, 115, 108, 116, 117, 32, 97, 100, 100, 105, 32, 97, 110, 100, 105, 32, 111, 114, 105, 32, 120, 111, 114, 105, 32, 115, 108, 116, 105, 32, 108, 117, 105, 32, 108, 119, 32, 108, 98, 32, 108, 98, 117, 32, 115, 119, 32, 115, 98, 32, 98, 101, 113, 32, 98, 110, 101, 32, 98, 108, 116, 32, 98, 108, 116, 117, 32, 106, 97, 108, 32, 106, 97, 108, 114, 32, 115, 121, 115]⟩ : ByteArray) (⟨#[32]⟩ : ByteArray)).bind fun t306 => (isa_Op.l0 k a0 t306 (t306.length : Int) 0)
theorem isa_Op.mono_l : ∀ k, (∀ y0 y1 y2 y3, LeO (isa_Op.l0 k y0 y1 y2 y3) (isa_Op.l0 (k + 1) y0 y1 y2 y3))
  | 0 => fun _ _ _ _ r h => by simp [isa_Op.l0] at h
  | k + 1 => by
    have ih0 := isa_Op.mono_l k
    · intro y0 y1 y2 y3
      unfold isa_Op.l0
      repeat' first
      | (with_reducible exact ih0 _ _ _ _)
      | (with_reducible exact LeO.refl _)
      | (with_reducible exact LeO.none _)
      | (with_reducible refine LeO.ite ?_ ?_)
      | (with_reducible refine LeO.bind ?_ (fun _ => ?_))
      | exact ih0 _ _ _ _
      | exact LeO.none _
      | refine LeO.ite ?_ ?_
      | refine LeO.bind ?_ (fun _ => ?_)
theorem isa_Op.mono : ∀ a0 k, LeO (isa_Op.f k a0) (isa_Op.f (k + 1) a0) := by
  intro a0 k
  have ih0 := isa_Op.mono_l k
  unfold isa_Op.f
  repeat' first
      | (with_reducible exact ih0 _ _ _ _)
      | (with_reducible exact LeO.refl _)
      | (with_reducible exact LeO.none _)
      | (with_reducible refine LeO.ite ?_ ?_)
      | (with_reducible refine LeO.bind ?_ (fun _ => ?_))
      | exact ih0 _ _ _ _
      | exact LeO.none _
      | refine LeO.ite ?_ ?_
      | refine LeO.bind ?_ (fun _ => ?_)
set_option maxHeartbeats 8000000 in
set_option maxRecDepth 100000 in
theorem isa_Op.calls (k : Nat) (a0 : ByteArray) (r1 : Int) (r2 : Bool) (w : World) (hL : Aside0 (Laid w)) (h : isa_Op.f k a0 = some (r1, r2)) :
    Calls Tryd.prog 17 #[.string a0] w fun e w' => e = .returned (.tuple #[.int .u8 r1, .bool r2]) ∧ Below w.heap.size w w' := by
  have HB := Aside0.mk (Below.refl w.heap.size w)
  have H : ((strings_Split.f (⟨#[97, 100, 100, 32, 115, 117, 98, 32, 109, 117, 108, 32, 100, 105, 118, 32, 114, 101, 109, 32, 97, 110, 100, 32, 111, 114, 32, 120, 111, 114, 32, 115, 104, 108, 32, 115, 104, 114, 32, 115, 97, 114, 32, 115, 108, 116, 32, 115, 108, 116, 117, 32, 97, 100, 100, 105, 32, 97, 110, 100, 105, 32, 111, 114, 105, 32, 120, 111, 114, 105, 32, 115, 108, 116, 105, 32, 108, 117, 105, 32, 108, 119, 32, 108, 98, 32, 108, 98, 117, 32, 115, 119, 32, 115, 98, 32, 98, 101, 113, 32, 98, 110, 101, 32, 98, 108, 116, 32, 98, 108, 116, 117, 32, 106, 97, 108, 32, 106, 97, 108, 114, 32, 115, 121, 115]⟩ : ByteArray) (⟨#[32]⟩ : ByteArray)).bind fun t306 => (isa_Op.l0 k a0 t306 (t306.length : Int) 0)) = some (r1, r2) := h
  clear h
  replace H := Option.bind_eq_some_iff.mp H
  obtain ⟨t306, A20, H⟩ := H
  replace H : (isa_Op.l0 k a0 t306 (t306.length : Int) 0) = some (r1, r2) := H
  have A2 := Aside0.mk A20
  clear A20
  have H' := Aside0.mk H
  clear H
  go_enter Tryd.func17, Tryd.ntmps17
  go_wp2_with (first | ((with_reducible refine gate_callee (f := 25) rfl ?_); refine goesL_ (some 6) rfl rfl Tryd.func25 (by kernel_rfl) rfl #[.string (⟨#[97, 100, 100, 32, 115, 117, 98, 32, 109, 117, 108, 32, 100, 105, 118, 32, 114, 101, 109, 32, 97, 110, 100, 32, 111, 114, 32, 120, 111, 114, 32, 115, 104, 108, 32, 115, 104, 114, 32, 115, 97, 114, 32, 115, 108, 116, 32, 115, 108, 116, 117, 32, 97, 100, 100, 105, 32, 97, 110, 100, 105, 32, 111, 114, 105, 32, 120, 111, 114, 105, 32, 115, 108, 116, 105, 32, 108, 117, 105, 32, 108, 119, 32, 108, 98, 32, 108, 98, 117, 32, 115, 119, 32, 115, 98, 32, 98, 101, 113, 32, 98, 110, 101, 32, 98, 108, 116, 32, 98, 108, 116, 117, 32, 106, 97, 108, 32, 106, 97, 108, 114, 32, 115, 121, 115]⟩ : ByteArray), .string (⟨#[32]⟩ : ByteArray)] rfl (by (try simp only [List.map_toArray, List.map_cons, List.map_nil]); first | done | rfl | (simp only [List.length_drop, List.length_take]; rfl)) ?_; (with_reducible refine (strings_Split.calls (⟨#[97, 100, 100, 32, 115, 117, 98, 32, 109, 117, 108, 32, 100, 105, 118, 32, 114, 101, 109, 32, 97, 110, 100, 32, 111, 114, 32, 120, 111, 114, 32, 115, 104, 108, 32, 115, 104, 114, 32, 115, 97, 114, 32, 115, 108, 116, 32, 115, 108, 116, 117, 32, 97, 100, 100, 105, 32, 97, 110, 100, 105, 32, 111, 114, 105, 32, 120, 111, 114, 105, 32, 115, 108, 116, 105, 32, 108, 117, 105, 32, 108, 119, 32, 108, 98, 32, 108, 98, 117, 32, 115, 119, 32, 115, 98, 32, 98, 101, 113, 32, 98, 110, 101, 32, 98, 108, 116, 32, 98, 108, 116, 117, 32, 106, 97, 108, 32, 106, 97, 108, 114, 32, 115, 121, 115]⟩ : ByteArray) (⟨#[32]⟩ : ByteArray) t306 _ (hL.laid (by repeat (first | (with_reducible first | exact HB.out | apply below_alloc | apply pw_below_drewN | apply below_drew1) | exact HB.out))) A2.out).mono ?_); rintro e w3 ⟨v307, rfl, ho0, hb⟩; refine ⟨_, rfl, ?_⟩; have n0_ := Aside0.mk (Kd.R_lower ho0 (below_size (by repeat (first | (with_reducible first | exact HB.out | apply below_alloc | apply pw_below_drewN | apply below_drew1) | exact HB.out)))); have n1_ := Aside0.mk (below_step (by repeat (first | (with_reducible first | exact HB.out | apply below_alloc | apply pw_below_drewN | apply below_drew1) | exact HB.out)) hb); clear HB; have HO308 := n0_; have HB := n1_; clear n0_ n1_; (try clear hb); (try clear hb2); (try clear hk); (try clear hi); (try clear ho0); obtain ⟨Ao4, co4, eo4⟩ := Kd.R_slice HO308.out; subst eo4))
  go_loopg [8] k (fun kq v8 w' => ∃ (x8_1 : Int), v8 = .int .i64 x8_1 ∧ Aside0 (isa_Op.l0 kq a0 t306 (t306.length : Int) x8_1 = some (r1, r2)) ∧ Aside0 (kq ≤ k) ∧ Aside0 (Kd.R Kd.string 9 w' w.heap.size (fun _ => True) (.slice Ao4 t306.length co4) t306) ∧ Aside0 (Below w.heap.size w w'))
  case atStart => exact ⟨(0), (by first | rfl | (simp; done) | (simp [*]; done)), H', ⟨Nat.le_refl _⟩, ⟨by (with_reducible repeat (first | apply Kd.R_alloc | apply Kd.R_drewN | apply Kd.R_drew)); exact HO308.out⟩, ⟨by repeat (first | (with_reducible first | exact HB.out | apply below_alloc | apply pw_below_drewN | apply below_drew1) | exact HB.out)⟩⟩
  case round =>
    clear H'
    try clear c1
    try clear c2
    try clear p2
    obtain ⟨x8_1, rfl, HA, HK1, HO_6, HB⟩ := hrel
    cases gk with
    | zero => exact absurd HA.out (by simp [isa_Op.l0])
    | succ k1 =>
      have H := HA.out
      clear HA
      simp only [isa_Op.l0] at H
      by_cases c5 : x8_1 < (t306.length : Int)
      · rw [if_pos c5] at H
        have c5b0 : decide (x8_1 < (t306.length : Int)) = true := decide_eq_true c5
        clear c5
        by_cases c6 : 0 ≤ x8_1
        · rw [if_pos c6] at H
          have c6b0 : decide (0 ≤ x8_1) = true := decide_eq_true c6
          clear c6
          by_cases c7 : x8_1 < (t306.length : Int)
          · rw [if_pos c7] at H
            have c7b0 : decide (x8_1 < (t306.length : Int)) = true := decide_eq_true c7
            clear c7
            by_cases c8 : (rdOf ByteArray.empty t306 x8_1).toList = a0.toList
            · rw [if_pos c8] at H
              have c8b0 : ((rdOf ByteArray.empty t306 x8_1).toList == a0.toList) = true := beq_iff_eq.mpr c8
              have c8b1 : ((rdOf ByteArray.empty t306 x8_1).toList != a0.toList) = false := bne_eq_false_iff_eq.mpr c8
              clear c8
              simp only [Option.some.injEq, Prod.mk.injEq] at H
              obtain ⟨rfl, rfl⟩ := H
              have p309 : 0 ≤ (x8_1 : Int) := of_decide_eq_true (by first | (with_reducible assumption) | assumption)
              have q309 : x8_1 < (t306.length : Int) := of_decide_eq_true (by first | (with_reducible assumption) | assumption)
              obtain ⟨ad309, e309, hx309_0⟩ := Kd.at_string (Kd.R_reads' HO_6.out).2.2 x8_1 p309 q309
              cases e309
              replace p309 := eq_true p309
              replace q309 := eq_true q309
              go_wp2
              go_ret2
              exact ⟨by first | rfl | (simp [errW_none, errW_some] <;> rfl) | (simp [*, errW_none, errW_some] <;> rfl), by repeat (first | (with_reducible first | exact HB.out | apply below_alloc | apply pw_below_drewN | apply below_drew1) | exact HB.out)⟩
            · rw [if_neg c8] at H
              have c8b0 : ((rdOf ByteArray.empty t306 x8_1).toList == a0.toList) = false := beq_eq_false_iff_ne.mpr c8
              have c8b1 : ((rdOf ByteArray.empty t306 x8_1).toList != a0.toList) = true := bne_iff_ne.mpr c8
              have H' := Aside0.mk H
              clear H
              have p309 : 0 ≤ (x8_1 : Int) := of_decide_eq_true (by first | (with_reducible assumption) | assumption)
              have q309 : x8_1 < (t306.length : Int) := of_decide_eq_true (by first | (with_reducible assumption) | assumption)
              obtain ⟨ad309, e309, hx309_0⟩ := Kd.at_string (Kd.R_reads' HO_6.out).2.2 x8_1 p309 q309
              cases e309
              replace p309 := eq_true p309
              replace q309 := eq_true q309
              go_wp2
              go_roundg k1
              case measure => have := HK1.out; omega
              case rel => exact ⟨(wrap64 (x8_1 + 1)), (by first | rfl | (simp; done) | (simp [*]; done)), H', ⟨by have := HK1.out; omega⟩, ⟨by (with_reducible repeat (first | apply Kd.R_alloc | apply Kd.R_drewN | apply Kd.R_drew)); exact HO_6.out⟩, ⟨by repeat (first | (with_reducible first | exact HB.out | apply below_alloc | apply pw_below_drewN | apply below_drew1) | exact HB.out)⟩⟩
          · rw [if_neg c7] at H
            exact absurd H (by simp)
        · rw [if_neg c6] at H
          exact absurd H (by simp)
      · rw [if_neg c5] at H
        have c5b0 : decide (x8_1 < (t306.length : Int)) = false := decide_eq_false c5
        clear c5
        simp only [Option.some.injEq, Prod.mk.injEq] at H
        obtain ⟨rfl, rfl⟩ := H
        go_wp2
        go_ret2
        exact ⟨by first | rfl | (simp [errW_none, errW_some] <;> rfl) | (simp [*, errW_none, errW_some] <;> rfl), by repeat (first | (with_reducible first | exact HB.out | apply below_alloc | apply pw_below_drewN | apply below_drew1) | exact HB.out)⟩
def hibernaclelaw10_IsaText.l0 : Nat → ByteArray → Int → Int → Int → Int → Int → Int → Option (Bool)
  | 0, _, _, _, _, _, _, _ => none
  | k + 1, x3, x4, x311000, x311001, x311002, x311003, x311004 => if x4 < (x3.size : Int) then (if 0 ≤ x4 then (if (bt x3 x4) = 32 then (if x4 ≤ (x3.size : Int) then ((isa_Op.f k (x3.extract 0 (x4 : Int).toNat)).bind fun bt314 => (if x3.toList = ([] : List UInt8) then (if bt314.2 = true then (some (bt314.1 == x311000)) else (some true)) else (if bt314.2 = true then (some (bt314.1 == x311000)) else (some false)))) else (none)) else (hibernaclelaw10_IsaText.l0 k x3 (wrap64 (x4 + 1)) x311000 x311001 x311002 x311003 x311004)) else (none)) else (if 0 ≤ x4 then (if x4 ≤ (x3.size : Int) then ((isa_Op.f k (x3.extract 0 (x4 : Int).toNat)).bind fun bt316 => (if x3.toList = ([] : List UInt8) then (if bt316.2 = true then (some (bt316.1 == x311000)) else (some true)) else (if bt316.2 = true then (some (bt316.1 == x311000)) else (some false)))) else (none)) else (none))
def hibernaclelaw10_IsaText.f (k : Nat) (a0_0 : Int) (a0_1 : Int) (a0_2 : Int) (a0_3 : Int) (a0_4 : Int) : Option (Bool) := (hibernaclelaw10_alive.f k).bind fun t311 => (if t311 = true then ((isa_Text.f k a0_0 a0_1 a0_2 a0_3 a0_4).bind fun t312 => ((hibernacleref10_Text.f k a0_0 a0_1 a0_2 a0_3 a0_4).bind fun t313 => (if t312.toList = t313.toList then (hibernaclelaw10_IsaText.l0 k t312 0 a0_0 a0_1 a0_2 a0_3 a0_4) else (some false)))) else (some false))
theorem hibernaclelaw10_IsaText.mono_l : ∀ k, (∀ y0 y1 y2 y3 y4 y5 y6, LeO (hibernaclelaw10_IsaText.l0 k y0 y1 y2 y3 y4 y5 y6) (hibernaclelaw10_IsaText.l0 (k + 1) y0 y1 y2 y3 y4 y5 y6))
  | 0 => fun _ _ _ _ _ _ _ r h => by simp [hibernaclelaw10_IsaText.l0] at h
  | k + 1 => by
    have ih0 := hibernaclelaw10_IsaText.mono_l k
    · intro y0 y1 y2 y3 y4 y5 y6
      unfold hibernaclelaw10_IsaText.l0
      repeat' first
      | (with_reducible exact ih0 _ _ _ _ _ _ _)
      | (with_reducible exact hibernaclelaw10_alive.mono _)
      | (with_reducible exact hibernacleref10_Text.mono _ _ _ _ _ _)
      | (with_reducible exact isa_Op.mono _ _)
      | (with_reducible exact isa_Text.mono _ _ _ _ _ _)
      | (with_reducible exact LeO.refl _)
      | (with_reducible exact LeO.none _)
      | (with_reducible refine LeO.ite ?_ ?_)
      | (with_reducible refine LeO.bind ?_ (fun _ => ?_))
      | exact ih0 _ _ _ _ _ _ _
      | exact hibernaclelaw10_alive.mono _
      | exact hibernacleref10_Text.mono _ _ _ _ _ _
      | exact isa_Op.mono _ _
      | exact isa_Text.mono _ _ _ _ _ _
      | exact LeO.none _
      | refine LeO.ite ?_ ?_
      | refine LeO.bind ?_ (fun _ => ?_)
theorem hibernaclelaw10_IsaText.mono : ∀ a0 a1 a2 a3 a4 k, LeO (hibernaclelaw10_IsaText.f k a0 a1 a2 a3 a4) (hibernaclelaw10_IsaText.f (k + 1) a0 a1 a2 a3 a4) := by
  intro a0 a1 a2 a3 a4 k
  have ih0 := hibernaclelaw10_IsaText.mono_l k
  unfold hibernaclelaw10_IsaText.f
  repeat' first
      | (with_reducible exact ih0 _ _ _ _ _ _ _)
      | (with_reducible exact hibernaclelaw10_alive.mono _)
      | (with_reducible exact hibernacleref10_Text.mono _ _ _ _ _ _)
      | (with_reducible exact isa_Op.mono _ _)
      | (with_reducible exact isa_Text.mono _ _ _ _ _ _)
      | (with_reducible exact LeO.refl _)
      | (with_reducible exact LeO.none _)
      | (with_reducible refine LeO.ite ?_ ?_)
      | (with_reducible refine LeO.bind ?_ (fun _ => ?_))
      | exact ih0 _ _ _ _ _ _ _
      | exact hibernaclelaw10_alive.mono _
      | exact hibernacleref10_Text.mono _ _ _ _ _ _
      | exact isa_Op.mono _ _
      | exact isa_Text.mono _ _ _ _ _ _
      | exact LeO.none _
      | refine LeO.ite ?_ ?_
      | refine LeO.bind ?_ (fun _ => ?_)
set_option maxHeartbeats 8000000 in
set_option maxRecDepth 100000 in
theorem hibernaclelaw10_IsaText.calls (k : Nat) (a0_0 : Int) (a0_1 : Int) (a0_2 : Int) (a0_3 : Int) (a0_4 : Int) (r : Bool) (w : World) (hL : Aside0 (Laid w)) (h : hibernaclelaw10_IsaText.f k a0_0 a0_1 a0_2 a0_3 a0_4 = some r) :
    Calls Tryd.prog 8 #[.agg #[.int .u8 a0_0, .int .u8 a0_1, .int .u8 a0_2, .int .u8 a0_3, .int .i32 a0_4]] w fun e w' => e = .returned (.bool r) ∧ Below w.heap.size w w' := by
  have hu23 := Tryd.underlying23
  have HB := Aside0.mk (Below.refl w.heap.size w)
  have H : ((hibernaclelaw10_alive.f k).bind fun t311 => (if t311 = true then ((isa_Text.f k a0_0 a0_1 a0_2 a0_3 a0_4).bind fun t312 => ((hibernacleref10_Text.f k a0_0 a0_1 a0_2 a0_3 a0_4).bind fun t313 => (if t312.toList = t313.toList then (hibernaclelaw10_IsaText.l0 k t312 0 a0_0 a0_1 a0_2 a0_3 a0_4) else (some false)))) else (some false))) = some r := h
  clear h
  replace H := Option.bind_eq_some_iff.mp H
  obtain ⟨t311, A20, H⟩ := H
  replace H : (if t311 = true then ((isa_Text.f k a0_0 a0_1 a0_2 a0_3 a0_4).bind fun t312 => ((hibernacleref10_Text.f k a0_0 a0_1 a0_2 a0_3 a0_4).bind fun t313 => (if t312.toList = t313.toList then (hibernaclelaw10_IsaText.l0 k t312 0 a0_0 a0_1 a0_2 a0_3 a0_4) else (some false)))) else (some false)) = some r := H
  have A2 := Aside0.mk A20
  clear A20
  by_cases c3 : t311 = true
  · subst c3
    have H1 : ((isa_Text.f k a0_0 a0_1 a0_2 a0_3 a0_4).bind fun t312 => ((hibernacleref10_Text.f k a0_0 a0_1 a0_2 a0_3 a0_4).bind fun t313 => (if t312.toList = t313.toList then (hibernaclelaw10_IsaText.l0 k t312 0 a0_0 a0_1 a0_2 a0_3 a0_4) else (some false)))) = some r := by rw [if_pos rfl] at H; exact H
    clear H
    have H := H1
    clear H1
    replace H := Option.bind_eq_some_iff.mp H
    obtain ⟨t312, A40, H⟩ := H
    replace H : ((hibernacleref10_Text.f k a0_0 a0_1 a0_2 a0_3 a0_4).bind fun t313 => (if t312.toList = t313.toList then (hibernaclelaw10_IsaText.l0 k t312 0 a0_0 a0_1 a0_2 a0_3 a0_4) else (some false))) = some r := H
    have A4 := Aside0.mk A40
    clear A40
    replace H := Option.bind_eq_some_iff.mp H
    obtain ⟨t313, A50, H⟩ := H
    replace H : (if t312.toList = t313.toList then (hibernaclelaw10_IsaText.l0 k t312 0 a0_0 a0_1 a0_2 a0_3 a0_4) else (some false)) = some r := H
    have A5 := Aside0.mk A50
    clear A50
    by_cases c6 : t312.toList = t313.toList
    · rw [if_pos c6] at H
      have c6b0 : (t312.toList == t313.toList) = true := beq_iff_eq.mpr c6
      have c6b1 : (t312.toList != t313.toList) = false := bne_eq_false_iff_eq.mpr c6
      clear c6
      have H' := Aside0.mk H
      clear H
      go_enter Tryd.func8, Tryd.ntmps8
      go_wp2_with (first | ((with_reducible refine gate_dst (N := 1) rfl ?_); refine box_event ?hg (N := 1) ?hd (cs := #[.int .u8 a0_0, .int .u8 a0_1, .int .u8 a0_2, .int .u8 a0_3, .int .i32 a0_4]) (t := 23) ?hr ?_; (case hd => rfl); (case hg => rfl); (case hr => first | (go_simp; done) | (go_simp; rfl)); intro gb310 hg w7 hbox hb; have n0_ := Aside0.mk (below_step (by repeat (first | (with_reducible first | exact HB.out | apply below_alloc | apply pw_below_drewN | apply below_drew1) | exact HB.out)) hb); have n1_ := Aside0.mk (hbox); have n2_ := Aside0.mk ((by rw [hg]; exact (below_size (by repeat (first | (with_reducible first | exact HB.out | apply below_alloc | apply pw_below_drewN | apply below_drew1) | exact HB.out))) : w.heap.size ≤ gb310)); have n3_ := Aside0.mk ((by rw [hg]; exact (below_size (by repeat (first | (with_reducible first | exact HB.out | apply below_alloc | apply pw_below_drewN | apply below_drew1) | exact HB.out))) : w.heap.size ≤ gb310)); clear HB; have HB := n0_; have BK310 := n1_; have GW310 := n2_; have GE310 := n3_; clear n0_ n1_ n2_ n3_; clear hb hbox hg) | ((with_reducible refine gate_callee (f := 10) rfl ?_); refine goesL_ (some 7) rfl rfl Tryd.func10 (by kernel_rfl) rfl #[] rfl (by (try simp only [List.map_toArray, List.map_cons, List.map_nil]); first | done | rfl | (simp only [List.length_drop, List.length_take]; rfl)) ?_; (with_reducible refine (hibernaclelaw10_alive.calls k  true _ (hL.laid (by repeat (first | (with_reducible first | exact HB.out | apply below_alloc | apply pw_below_drewN | apply below_drew1 | refine below_set ?_ GE310.out) | exact HB.out))) A2.out).mono ?_); rintro e w8 ⟨rfl, hb⟩; refine ⟨_, rfl, ?_⟩; have n0_ := Aside0.mk (blk_below (g := gb310) (o := .cells #[.int .u8 a0_0, .int .u8 a0_1, .int .u8 a0_2, .int .u8 a0_3, .int .i32 a0_4] 23 (0, 0)) (by (with_reducible repeat (first | refine blk_drewN ?_ _ | refine blk_drew ?_ | refine blk_alloc ?_ _)); exact BK310.out) hb); have n1_ := Aside0.mk (below_step (by repeat (first | (with_reducible first | exact HB.out | apply below_alloc | apply pw_below_drewN | apply below_drew1 | refine below_set ?_ GE310.out) | exact HB.out)) hb); clear BK310; clear HB; have BK310 := n0_; have HB := n1_; clear n0_ n1_; (try clear hb); (try clear hb2); (try clear hk); (try clear hi); have hcz9_0 : w8.cell? ⟨gb310, 0, none⟩ = some (.int .u8 a0_0) := (blk_cell BK310.out 0).trans rfl; have hcz9_1 : w8.cell? ⟨gb310, 1, none⟩ = some (.int .u8 a0_1) := (blk_cell BK310.out 1).trans rfl; have hcz9_2 : w8.cell? ⟨gb310, 2, none⟩ = some (.int .u8 a0_2) := (blk_cell BK310.out 2).trans rfl; have hcz9_3 : w8.cell? ⟨gb310, 3, none⟩ = some (.int .u8 a0_3) := (blk_cell BK310.out 3).trans rfl; have hcz9_4 : w8.cell? ⟨gb310, 4, none⟩ = some (.int .i32 a0_4) := (blk_cell BK310.out 4).trans rfl; have hfz9_0 := blk_frozen BK310.out 0; have hfz9_1 := blk_frozen BK310.out 1; have hfz9_2 := blk_frozen BK310.out 2; have hfz9_3 := blk_frozen BK310.out 3; have hfz9_4 := blk_frozen BK310.out 4) | ((with_reducible refine gate_callee (f := 15) rfl ?_); refine goesL_ (some 10) rfl rfl Tryd.func15 (by kernel_rfl) rfl #[.agg #[.int .u8 a0_0, .int .u8 a0_1, .int .u8 a0_2, .int .u8 a0_3, .int .i32 a0_4]] rfl (by (try simp only [List.map_toArray, List.map_cons, List.map_nil]); first | done | rfl | (simp only [List.length_drop, List.length_take]; rfl)) ?_; (with_reducible refine (isa_Text.calls k a0_0 a0_1 a0_2 a0_3 a0_4 t312 _ (hL.laid (by repeat (first | (with_reducible first | exact HB.out | apply below_alloc | apply pw_below_drewN | apply below_drew1 | refine below_set ?_ GE310.out) | exact HB.out))) A4.out).mono ?_); rintro e w10 ⟨rfl, hb⟩; refine ⟨_, rfl, ?_⟩; have n0_ := Aside0.mk (blk_below (g := gb310) (o := .cells #[.int .u8 a0_0, .int .u8 a0_1, .int .u8 a0_2, .int .u8 a0_3, .int .i32 a0_4] 23 (0, 0)) (by (with_reducible repeat (first | refine blk_drewN ?_ _ | refine blk_drew ?_ | refine blk_alloc ?_ _)); exact BK310.out) hb); have n1_ := Aside0.mk (below_step (by repeat (first | (with_reducible first | exact HB.out | apply below_alloc | apply pw_below_drewN | apply below_drew1 | refine below_set ?_ GE310.out) | exact HB.out)) hb); clear BK310; clear HB; have BK310 := n0_; have HB := n1_; clear n0_ n1_; (try clear hb); (try clear hb2); (try clear hk); (try clear hi); have hcz11_0 : w10.cell? ⟨gb310, 0, none⟩ = some (.int .u8 a0_0) := (blk_cell BK310.out 0).trans rfl; have hcz11_1 : w10.cell? ⟨gb310, 1, none⟩ = some (.int .u8 a0_1) := (blk_cell BK310.out 1).trans rfl; have hcz11_2 : w10.cell? ⟨gb310, 2, none⟩ = some (.int .u8 a0_2) := (blk_cell BK310.out 2).trans rfl; have hcz11_3 : w10.cell? ⟨gb310, 3, none⟩ = some (.int .u8 a0_3) := (blk_cell BK310.out 3).trans rfl; have hcz11_4 : w10.cell? ⟨gb310, 4, none⟩ = some (.int .i32 a0_4) := (blk_cell BK310.out 4).trans rfl; have hfz11_0 := blk_frozen BK310.out 0; have hfz11_1 := blk_frozen BK310.out 1; have hfz11_2 := blk_frozen BK310.out 2; have hfz11_3 := blk_frozen BK310.out 3; have hfz11_4 := blk_frozen BK310.out 4) | ((with_reducible refine gate_callee (f := 16) rfl ?_); refine goesL_ (some 13) rfl rfl Tryd.func16 (by kernel_rfl) rfl #[.agg #[.int .u8 a0_0, .int .u8 a0_1, .int .u8 a0_2, .int .u8 a0_3, .int .i32 a0_4]] rfl (by (try simp only [List.map_toArray, List.map_cons, List.map_nil]); first | done | rfl | (simp only [List.length_drop, List.length_take]; rfl)) ?_; (with_reducible refine (hibernacleref10_Text.calls k a0_0 a0_1 a0_2 a0_3 a0_4 t313 _ A5.out).mono ?_); rintro e w12 ⟨rfl, hb⟩; refine ⟨_, rfl, ?_⟩; have n0_ := Aside0.mk (blk_below (g := gb310) (o := .cells #[.int .u8 a0_0, .int .u8 a0_1, .int .u8 a0_2, .int .u8 a0_3, .int .i32 a0_4] 23 (0, 0)) (by (with_reducible repeat (first | refine blk_drewN ?_ _ | refine blk_drew ?_ | refine blk_alloc ?_ _)); exact BK310.out) hb); have n1_ := Aside0.mk (below_step (by repeat (first | (with_reducible first | exact HB.out | apply below_alloc | apply pw_below_drewN | apply below_drew1 | refine below_set ?_ GE310.out) | exact HB.out)) hb); clear BK310; clear HB; have BK310 := n0_; have HB := n1_; clear n0_ n1_; (try clear hb); (try clear hb2); (try clear hk); (try clear hi)))
      go_loopg [4] k (fun kq v4 w' => ∃ (x4_1 : Int), v4 = .int .i64 x4_1 ∧ Aside0 (hibernaclelaw10_IsaText.l0 kq t312 x4_1 a0_0 a0_1 a0_2 a0_3 a0_4 = some r) ∧ Aside0 (kq ≤ k) ∧ Aside0 (w'.heap[gb310]? = some (.cells #[.int .u8 a0_0, .int .u8 a0_1, .int .u8 a0_2, .int .u8 a0_3, .int .i32 a0_4] 23 (0, 0))) ∧ Aside0 (Below w.heap.size w w'))
      case atStart => exact ⟨(0), (by first | rfl | (simp; done) | (simp [*]; done)), H', ⟨Nat.le_refl _⟩, ⟨by (with_reducible repeat (first | refine blk_drewN ?_ _ | refine blk_drew ?_ | refine blk_alloc ?_ _)); exact BK310.out⟩, ⟨by repeat (first | (with_reducible first | exact HB.out | apply below_alloc | apply pw_below_drewN | apply below_drew1 | refine below_set ?_ GE310.out) | exact HB.out)⟩⟩
      case round =>
        clear H'
        try clear c1
        try clear p2
        try clear c3
        try clear c6
        try clear c6b0
        try clear c6b1
        try clear c8
        try clear c10
        try clear hcz11_0
        try clear hcz11_1
        try clear hcz11_2
        try clear hcz11_3
        try clear hcz11_4
        try clear hcz9_0
        try clear hcz9_1
        try clear hcz9_2
        try clear hcz9_3
        try clear hcz9_4
        try clear hfz11_0
        try clear hfz11_1
        try clear hfz11_2
        try clear hfz11_3
        try clear hfz11_4
        try clear hfz9_0
        try clear hfz9_1
        try clear hfz9_2
        try clear hfz9_3
        try clear hfz9_4
        obtain ⟨x4_1, rfl, HA, HK1, BK310, HB⟩ := hrel
        cases gk with
        | zero => exact absurd HA.out (by simp [hibernaclelaw10_IsaText.l0])
        | succ k1 =>
          have H := HA.out
          clear HA
          simp only [hibernaclelaw10_IsaText.l0] at H
          by_cases c13 : x4_1 < (t312.size : Int)
          · rw [if_pos c13] at H
            have c13b0 : decide (x4_1 < (t312.size : Int)) = true := decide_eq_true c13
            clear c13
            by_cases c14 : 0 ≤ x4_1
            · rw [if_pos c14] at H
              have c14b0 : decide (0 ≤ x4_1) = true := decide_eq_true c14
              clear c14
              by_cases c16 : (bt t312 x4_1) = 32
              · rw [if_pos c16] at H
                have c16b0 : ((bt t312 x4_1) == 32) = true := beq_iff_eq.mpr c16
                have c16b1 : ((bt t312 x4_1) != 32) = false := bne_eq_false_iff_eq.mpr c16
                clear c16
                have c17b0 := eq_true (of_decide_eq_true (by first | (with_reducible assumption) | assumption) : 0 ≤ x4_1)
                by_cases c18 : x4_1 ≤ (t312.size : Int)
                · rw [if_pos c18] at H
                  have c18b0 := eq_true c18
                  have c18b1 : decide (x4_1 ≤ (t312.size : Int)) = true := decide_eq_true c18
                  clear c18
                  replace H := Option.bind_eq_some_iff.mp H
                  obtain ⟨⟨t314, t315⟩, A190, H⟩ := H
                  replace H : (if t312.toList = ([] : List UInt8) then (if t315 = true then (some (t314 == a0_0)) else (some true)) else (if t315 = true then (some (t314 == a0_0)) else (some false))) = some r := H
                  have A19 := Aside0.mk A190
                  clear A190
                  by_cases c20 : t312.toList = ([] : List UInt8)
                  · rw [if_pos c20] at H
                    have c20b0 : (t312.toList == ([] : List UInt8)) = true := beq_iff_eq.mpr c20
                    have c20b1 : (t312.toList != ([] : List UInt8)) = false := bne_eq_false_iff_eq.mpr c20
                    clear c20
                    by_cases c21 : t315 = true
                    · subst c21
                      have H1 : (some (t314 == a0_0)) = some r := by rw [if_pos rfl] at H; exact H
                      clear H
                      have H := H1
                      clear H1
                      obtain rfl := Option.some.inj H
                      have p15 : 0 ≤ (x4_1 : Int) := of_decide_eq_true (by first | (with_reducible assumption) | assumption)
                      have q15 : x4_1 < (t312.size : Int) := of_decide_eq_true (by first | (with_reducible assumption) | assumption)
                      have hx15 := bt_at t312 x4_1
                      replace p15 := eq_true p15
                      replace q15 := eq_true q15
                      go_wp2_with (first | ((with_reducible refine gate_callee (f := 17) rfl ?_); refine goesL_ (some 31) rfl rfl Tryd.func17 (by kernel_rfl) rfl #[.string (t312.extract 0 (x4_1 : Int).toNat)] rfl (by (try simp only [List.map_toArray, List.map_cons, List.map_nil]); first | done | rfl | (simp only [List.length_drop, List.length_take]; rfl)) ?_; (with_reducible refine (isa_Op.calls k1 (t312.extract 0 (x4_1 : Int).toNat) t314 true _ (hL.laid (by repeat (first | (with_reducible first | exact HB.out | apply below_alloc | apply pw_below_drewN | apply below_drew1 | refine below_set ?_ GE310.out) | exact HB.out))) A19.out).mono ?_); rintro e w22 ⟨rfl, hb⟩; refine ⟨_, rfl, ?_⟩; have n0_ := Aside0.mk (blk_below (g := gb310) (o := .cells #[.int .u8 a0_0, .int .u8 a0_1, .int .u8 a0_2, .int .u8 a0_3, .int .i32 a0_4] 23 (0, 0)) (by (with_reducible repeat (first | refine blk_drewN ?_ _ | refine blk_drew ?_ | refine blk_alloc ?_ _)); exact BK310.out) hb); have n1_ := Aside0.mk (below_step (by repeat (first | (with_reducible first | exact HB.out | apply below_alloc | apply pw_below_drewN | apply below_drew1 | refine below_set ?_ GE310.out) | exact HB.out)) hb); clear BK310; clear HB; have BK310 := n0_; have HB := n1_; clear n0_ n1_; (try clear hb); (try clear hb2); (try clear hk); (try clear hi); have hcz23_0 : w22.cell? ⟨gb310, 0, none⟩ = some (.int .u8 a0_0) := (blk_cell BK310.out 0).trans rfl; have hcz23_1 : w22.cell? ⟨gb310, 1, none⟩ = some (.int .u8 a0_1) := (blk_cell BK310.out 1).trans rfl; have hcz23_2 : w22.cell? ⟨gb310, 2, none⟩ = some (.int .u8 a0_2) := (blk_cell BK310.out 2).trans rfl; have hcz23_3 : w22.cell? ⟨gb310, 3, none⟩ = some (.int .u8 a0_3) := (blk_cell BK310.out 3).trans rfl; have hcz23_4 : w22.cell? ⟨gb310, 4, none⟩ = some (.int .i32 a0_4) := (blk_cell BK310.out 4).trans rfl; have hfz23_0 := blk_frozen BK310.out 0; have hfz23_1 := blk_frozen BK310.out 1; have hfz23_2 := blk_frozen BK310.out 2; have hfz23_3 := blk_frozen BK310.out 3; have hfz23_4 := blk_frozen BK310.out 4))
                      go_ret
                      exact ⟨by first | rfl | (simp [errW_none, errW_some] <;> rfl) | (simp [*, errW_none, errW_some] <;> rfl), by repeat (first | (with_reducible first | exact HB.out | apply below_alloc | apply pw_below_drewN | apply below_drew1 | refine below_set ?_ GE310.out) | exact HB.out)⟩
                    · replace c21 := Bool.eq_false_iff.mpr c21
                      subst c21
                      have H1 : (some true) = some r := by rw [if_neg (show ¬ (false = true) by decide)] at H; exact H
                      clear H
                      have H := H1
                      clear H1
                      obtain rfl := Option.some.inj H
                      have p15 : 0 ≤ (x4_1 : Int) := of_decide_eq_true (by first | (with_reducible assumption) | assumption)
                      have q15 : x4_1 < (t312.size : Int) := of_decide_eq_true (by first | (with_reducible assumption) | assumption)
                      have hx15 := bt_at t312 x4_1
                      replace p15 := eq_true p15
                      replace q15 := eq_true q15
                      go_wp2_with (first | ((with_reducible refine gate_callee (f := 17) rfl ?_); refine goesL_ (some 31) rfl rfl Tryd.func17 (by kernel_rfl) rfl #[.string (t312.extract 0 (x4_1 : Int).toNat)] rfl (by (try simp only [List.map_toArray, List.map_cons, List.map_nil]); first | done | rfl | (simp only [List.length_drop, List.length_take]; rfl)) ?_; (with_reducible refine (isa_Op.calls k1 (t312.extract 0 (x4_1 : Int).toNat) t314 false _ (hL.laid (by repeat (first | (with_reducible first | exact HB.out | apply below_alloc | apply pw_below_drewN | apply below_drew1 | refine below_set ?_ GE310.out) | exact HB.out))) A19.out).mono ?_); rintro e w24 ⟨rfl, hb⟩; refine ⟨_, rfl, ?_⟩; have n0_ := Aside0.mk (blk_below (g := gb310) (o := .cells #[.int .u8 a0_0, .int .u8 a0_1, .int .u8 a0_2, .int .u8 a0_3, .int .i32 a0_4] 23 (0, 0)) (by (with_reducible repeat (first | refine blk_drewN ?_ _ | refine blk_drew ?_ | refine blk_alloc ?_ _)); exact BK310.out) hb); have n1_ := Aside0.mk (below_step (by repeat (first | (with_reducible first | exact HB.out | apply below_alloc | apply pw_below_drewN | apply below_drew1 | refine below_set ?_ GE310.out) | exact HB.out)) hb); clear BK310; clear HB; have BK310 := n0_; have HB := n1_; clear n0_ n1_; (try clear hb); (try clear hb2); (try clear hk); (try clear hi)))
                      go_ret
                      exact ⟨by first | rfl | (simp [errW_none, errW_some] <;> rfl) | (simp [*, errW_none, errW_some] <;> rfl), by repeat (first | (with_reducible first | exact HB.out | apply below_alloc | apply pw_below_drewN | apply below_drew1 | refine below_set ?_ GE310.out) | exact HB.out)⟩
                  · rw [if_neg c20] at H
                    have c20b0 : (t312.toList == ([] : List UInt8)) = false := beq_eq_false_iff_ne.mpr c20
                    have c20b1 : (t312.toList != ([] : List UInt8)) = true := bne_iff_ne.mpr c20
                    by_cases c25 : t315 = true
                    · subst c25
                      have H1 : (some (t314 == a0_0)) = some r := by rw [if_pos rfl] at H; exact H
                      clear H
                      have H := H1
                      clear H1
                      obtain rfl := Option.some.inj H
                      have p15 : 0 ≤ (x4_1 : Int) := of_decide_eq_true (by first | (with_reducible assumption) | assumption)
                      have q15 : x4_1 < (t312.size : Int) := of_decide_eq_true (by first | (with_reducible assumption) | assumption)
                      have hx15 := bt_at t312 x4_1
                      replace p15 := eq_true p15
                      replace q15 := eq_true q15
                      go_wp2_with (first | ((with_reducible refine gate_callee (f := 17) rfl ?_); refine goesL_ (some 31) rfl rfl Tryd.func17 (by kernel_rfl) rfl #[.string (t312.extract 0 (x4_1 : Int).toNat)] rfl (by (try simp only [List.map_toArray, List.map_cons, List.map_nil]); first | done | rfl | (simp only [List.length_drop, List.length_take]; rfl)) ?_; (with_reducible refine (isa_Op.calls k1 (t312.extract 0 (x4_1 : Int).toNat) t314 true _ (hL.laid (by repeat (first | (with_reducible first | exact HB.out | apply below_alloc | apply pw_below_drewN | apply below_drew1 | refine below_set ?_ GE310.out) | exact HB.out))) A19.out).mono ?_); rintro e w26 ⟨rfl, hb⟩; refine ⟨_, rfl, ?_⟩; have n0_ := Aside0.mk (blk_below (g := gb310) (o := .cells #[.int .u8 a0_0, .int .u8 a0_1, .int .u8 a0_2, .int .u8 a0_3, .int .i32 a0_4] 23 (0, 0)) (by (with_reducible repeat (first | refine blk_drewN ?_ _ | refine blk_drew ?_ | refine blk_alloc ?_ _)); exact BK310.out) hb); have n1_ := Aside0.mk (below_step (by repeat (first | (with_reducible first | exact HB.out | apply below_alloc | apply pw_below_drewN | apply below_drew1 | refine below_set ?_ GE310.out) | exact HB.out)) hb); clear BK310; clear HB; have BK310 := n0_; have HB := n1_; clear n0_ n1_; (try clear hb); (try clear hb2); (try clear hk); (try clear hi); have hcz27_0 : w26.cell? ⟨gb310, 0, none⟩ = some (.int .u8 a0_0) := (blk_cell BK310.out 0).trans rfl; have hcz27_1 : w26.cell? ⟨gb310, 1, none⟩ = some (.int .u8 a0_1) := (blk_cell BK310.out 1).trans rfl; have hcz27_2 : w26.cell? ⟨gb310, 2, none⟩ = some (.int .u8 a0_2) := (blk_cell BK310.out 2).trans rfl; have hcz27_3 : w26.cell? ⟨gb310, 3, none⟩ = some (.int .u8 a0_3) := (blk_cell BK310.out 3).trans rfl; have hcz27_4 : w26.cell? ⟨gb310, 4, none⟩ = some (.int .i32 a0_4) := (blk_cell BK310.out 4).trans rfl; have hfz27_0 := blk_frozen BK310.out 0; have hfz27_1 := blk_frozen BK310.out 1; have hfz27_2 := blk_frozen BK310.out 2; have hfz27_3 := blk_frozen BK310.out 3; have hfz27_4 := blk_frozen BK310.out 4))
                      go_ret
                      exact ⟨by first | rfl | (simp [errW_none, errW_some] <;> rfl) | (simp [*, errW_none, errW_some] <;> rfl), by repeat (first | (with_reducible first | exact HB.out | apply below_alloc | apply pw_below_drewN | apply below_drew1 | refine below_set ?_ GE310.out) | exact HB.out)⟩
                    · replace c25 := Bool.eq_false_iff.mpr c25
                      subst c25
                      have H1 : (some false) = some r := by rw [if_neg (show ¬ (false = true) by decide)] at H; exact H
                      clear H
                      have H := H1
                      clear H1
                      obtain rfl := Option.some.inj H
                      have p15 : 0 ≤ (x4_1 : Int) := of_decide_eq_true (by first | (with_reducible assumption) | assumption)
                      have q15 : x4_1 < (t312.size : Int) := of_decide_eq_true (by first | (with_reducible assumption) | assumption)
                      have hx15 := bt_at t312 x4_1
                      replace p15 := eq_true p15
                      replace q15 := eq_true q15
                      go_wp2_with (first | ((with_reducible refine gate_callee (f := 17) rfl ?_); refine goesL_ (some 31) rfl rfl Tryd.func17 (by kernel_rfl) rfl #[.string (t312.extract 0 (x4_1 : Int).toNat)] rfl (by (try simp only [List.map_toArray, List.map_cons, List.map_nil]); first | done | rfl | (simp only [List.length_drop, List.length_take]; rfl)) ?_; (with_reducible refine (isa_Op.calls k1 (t312.extract 0 (x4_1 : Int).toNat) t314 false _ (hL.laid (by repeat (first | (with_reducible first | exact HB.out | apply below_alloc | apply pw_below_drewN | apply below_drew1 | refine below_set ?_ GE310.out) | exact HB.out))) A19.out).mono ?_); rintro e w28 ⟨rfl, hb⟩; refine ⟨_, rfl, ?_⟩; have n0_ := Aside0.mk (blk_below (g := gb310) (o := .cells #[.int .u8 a0_0, .int .u8 a0_1, .int .u8 a0_2, .int .u8 a0_3, .int .i32 a0_4] 23 (0, 0)) (by (with_reducible repeat (first | refine blk_drewN ?_ _ | refine blk_drew ?_ | refine blk_alloc ?_ _)); exact BK310.out) hb); have n1_ := Aside0.mk (below_step (by repeat (first | (with_reducible first | exact HB.out | apply below_alloc | apply pw_below_drewN | apply below_drew1 | refine below_set ?_ GE310.out) | exact HB.out)) hb); clear BK310; clear HB; have BK310 := n0_; have HB := n1_; clear n0_ n1_; (try clear hb); (try clear hb2); (try clear hk); (try clear hi)))
                      go_ret
                      exact ⟨by first | rfl | (simp [errW_none, errW_some] <;> rfl) | (simp [*, errW_none, errW_some] <;> rfl), by repeat (first | (with_reducible first | exact HB.out | apply below_alloc | apply pw_below_drewN | apply below_drew1 | refine below_set ?_ GE310.out) | exact HB.out)⟩
                · rw [if_neg c18] at H
                  exact absurd H (by simp)
              · rw [if_neg c16] at H
                have c16b0 : ((bt t312 x4_1) == 32) = false := beq_eq_false_iff_ne.mpr c16
                have c16b1 : ((bt t312 x4_1) != 32) = true := bne_iff_ne.mpr c16
                have H' := Aside0.mk H
                clear H
                have p15 : 0 ≤ (x4_1 : Int) := of_decide_eq_true (by first | (with_reducible assumption) | assumption)
                have q15 : x4_1 < (t312.size : Int) := of_decide_eq_true (by first | (with_reducible assumption) | assumption)
                have hx15 := bt_at t312 x4_1
                replace p15 := eq_true p15
                replace q15 := eq_true q15
                go_wp2
                go_roundg k1
                case measure => have := HK1.out; omega
                case rel => exact ⟨(wrap64 (x4_1 + 1)), (by first | rfl | (simp; done) | (simp [*]; done)), H', ⟨by have := HK1.out; omega⟩, ⟨by (with_reducible repeat (first | refine blk_drewN ?_ _ | refine blk_drew ?_ | refine blk_alloc ?_ _)); exact BK310.out⟩, ⟨by repeat (first | (with_reducible first | exact HB.out | apply below_alloc | apply pw_below_drewN | apply below_drew1 | refine below_set ?_ GE310.out) | exact HB.out)⟩⟩
            · rw [if_neg c14] at H
              exact absurd H (by simp)
          · rw [if_neg c13] at H
            have c13b0 : decide (x4_1 < (t312.size : Int)) = false := decide_eq_false c13
            clear c13
            by_cases c29 : 0 ≤ x4_1
            · rw [if_pos c29] at H
              have c29b0 := eq_true c29
              have c29b1 : decide (0 ≤ x4_1) = true := decide_eq_true c29
              clear c29
              by_cases c30 : x4_1 ≤ (t312.size : Int)
              · rw [if_pos c30] at H
                have c30b0 := eq_true c30
                have c30b1 : decide (x4_1 ≤ (t312.size : Int)) = true := decide_eq_true c30
                clear c30
                replace H := Option.bind_eq_some_iff.mp H
                obtain ⟨⟨t316, t317⟩, A310, H⟩ := H
                replace H : (if t312.toList = ([] : List UInt8) then (if t317 = true then (some (t316 == a0_0)) else (some true)) else (if t317 = true then (some (t316 == a0_0)) else (some false))) = some r := H
                have A31 := Aside0.mk A310
                clear A310
                by_cases c32 : t312.toList = ([] : List UInt8)
                · rw [if_pos c32] at H
                  have c32b0 : (t312.toList == ([] : List UInt8)) = true := beq_iff_eq.mpr c32
                  have c32b1 : (t312.toList != ([] : List UInt8)) = false := bne_eq_false_iff_eq.mpr c32
                  clear c32
                  by_cases c33 : t317 = true
                  · subst c33
                    have H1 : (some (t316 == a0_0)) = some r := by rw [if_pos rfl] at H; exact H
                    clear H
                    have H := H1
                    clear H1
                    obtain rfl := Option.some.inj H
                    go_wp2_with (first | ((with_reducible refine gate_callee (f := 17) rfl ?_); refine goesL_ (some 31) rfl rfl Tryd.func17 (by kernel_rfl) rfl #[.string (t312.extract 0 (x4_1 : Int).toNat)] rfl (by (try simp only [List.map_toArray, List.map_cons, List.map_nil]); first | done | rfl | (simp only [List.length_drop, List.length_take]; rfl)) ?_; (with_reducible refine (isa_Op.calls k1 (t312.extract 0 (x4_1 : Int).toNat) t316 true _ (hL.laid (by repeat (first | (with_reducible first | exact HB.out | apply below_alloc | apply pw_below_drewN | apply below_drew1 | refine below_set ?_ GE310.out) | exact HB.out))) A31.out).mono ?_); rintro e w34 ⟨rfl, hb⟩; refine ⟨_, rfl, ?_⟩; have n0_ := Aside0.mk (blk_below (g := gb310) (o := .cells #[.int .u8 a0_0, .int .u8 a0_1, .int .u8 a0_2, .int .u8 a0_3, .int .i32 a0_4] 23 (0, 0)) (by (with_reducible repeat (first | refine blk_drewN ?_ _ | refine blk_drew ?_ | refine blk_alloc ?_ _)); exact BK310.out) hb); have n1_ := Aside0.mk (below_step (by repeat (first | (with_reducible first | exact HB.out | apply below_alloc | apply pw_below_drewN | apply below_drew1 | refine below_set ?_ GE310.out) | exact HB.out)) hb); clear BK310; clear HB; have BK310 := n0_; have HB := n1_; clear n0_ n1_; (try clear hb); (try clear hb2); (try clear hk); (try clear hi); have hcz35_0 : w34.cell? ⟨gb310, 0, none⟩ = some (.int .u8 a0_0) := (blk_cell BK310.out 0).trans rfl; have hcz35_1 : w34.cell? ⟨gb310, 1, none⟩ = some (.int .u8 a0_1) := (blk_cell BK310.out 1).trans rfl; have hcz35_2 : w34.cell? ⟨gb310, 2, none⟩ = some (.int .u8 a0_2) := (blk_cell BK310.out 2).trans rfl; have hcz35_3 : w34.cell? ⟨gb310, 3, none⟩ = some (.int .u8 a0_3) := (blk_cell BK310.out 3).trans rfl; have hcz35_4 : w34.cell? ⟨gb310, 4, none⟩ = some (.int .i32 a0_4) := (blk_cell BK310.out 4).trans rfl; have hfz35_0 := blk_frozen BK310.out 0; have hfz35_1 := blk_frozen BK310.out 1; have hfz35_2 := blk_frozen BK310.out 2; have hfz35_3 := blk_frozen BK310.out 3; have hfz35_4 := blk_frozen BK310.out 4))
                    go_ret
                    exact ⟨by first | rfl | (simp [errW_none, errW_some] <;> rfl) | (simp [*, errW_none, errW_some] <;> rfl), by repeat (first | (with_reducible first | exact HB.out | apply below_alloc | apply pw_below_drewN | apply below_drew1 | refine below_set ?_ GE310.out) | exact HB.out)⟩
                  · replace c33 := Bool.eq_false_iff.mpr c33
                    subst c33
                    have H1 : (some true) = some r := by rw [if_neg (show ¬ (false = true) by decide)] at H; exact H
                    clear H
                    have H := H1
                    clear H1
                    obtain rfl := Option.some.inj H
                    go_wp2_with (first | ((with_reducible refine gate_callee (f := 17) rfl ?_); refine goesL_ (some 31) rfl rfl Tryd.func17 (by kernel_rfl) rfl #[.string (t312.extract 0 (x4_1 : Int).toNat)] rfl (by (try simp only [List.map_toArray, List.map_cons, List.map_nil]); first | done | rfl | (simp only [List.length_drop, List.length_take]; rfl)) ?_; (with_reducible refine (isa_Op.calls k1 (t312.extract 0 (x4_1 : Int).toNat) t316 false _ (hL.laid (by repeat (first | (with_reducible first | exact HB.out | apply below_alloc | apply pw_below_drewN | apply below_drew1 | refine below_set ?_ GE310.out) | exact HB.out))) A31.out).mono ?_); rintro e w36 ⟨rfl, hb⟩; refine ⟨_, rfl, ?_⟩; have n0_ := Aside0.mk (blk_below (g := gb310) (o := .cells #[.int .u8 a0_0, .int .u8 a0_1, .int .u8 a0_2, .int .u8 a0_3, .int .i32 a0_4] 23 (0, 0)) (by (with_reducible repeat (first | refine blk_drewN ?_ _ | refine blk_drew ?_ | refine blk_alloc ?_ _)); exact BK310.out) hb); have n1_ := Aside0.mk (below_step (by repeat (first | (with_reducible first | exact HB.out | apply below_alloc | apply pw_below_drewN | apply below_drew1 | refine below_set ?_ GE310.out) | exact HB.out)) hb); clear BK310; clear HB; have BK310 := n0_; have HB := n1_; clear n0_ n1_; (try clear hb); (try clear hb2); (try clear hk); (try clear hi)))
                    go_ret
                    exact ⟨by first | rfl | (simp [errW_none, errW_some] <;> rfl) | (simp [*, errW_none, errW_some] <;> rfl), by repeat (first | (with_reducible first | exact HB.out | apply below_alloc | apply pw_below_drewN | apply below_drew1 | refine below_set ?_ GE310.out) | exact HB.out)⟩
                · rw [if_neg c32] at H
                  have c32b0 : (t312.toList == ([] : List UInt8)) = false := beq_eq_false_iff_ne.mpr c32
                  have c32b1 : (t312.toList != ([] : List UInt8)) = true := bne_iff_ne.mpr c32
                  by_cases c37 : t317 = true
                  · subst c37
                    have H1 : (some (t316 == a0_0)) = some r := by rw [if_pos rfl] at H; exact H
                    clear H
                    have H := H1
                    clear H1
                    obtain rfl := Option.some.inj H
                    go_wp2_with (first | ((with_reducible refine gate_callee (f := 17) rfl ?_); refine goesL_ (some 31) rfl rfl Tryd.func17 (by kernel_rfl) rfl #[.string (t312.extract 0 (x4_1 : Int).toNat)] rfl (by (try simp only [List.map_toArray, List.map_cons, List.map_nil]); first | done | rfl | (simp only [List.length_drop, List.length_take]; rfl)) ?_; (with_reducible refine (isa_Op.calls k1 (t312.extract 0 (x4_1 : Int).toNat) t316 true _ (hL.laid (by repeat (first | (with_reducible first | exact HB.out | apply below_alloc | apply pw_below_drewN | apply below_drew1 | refine below_set ?_ GE310.out) | exact HB.out))) A31.out).mono ?_); rintro e w38 ⟨rfl, hb⟩; refine ⟨_, rfl, ?_⟩; have n0_ := Aside0.mk (blk_below (g := gb310) (o := .cells #[.int .u8 a0_0, .int .u8 a0_1, .int .u8 a0_2, .int .u8 a0_3, .int .i32 a0_4] 23 (0, 0)) (by (with_reducible repeat (first | refine blk_drewN ?_ _ | refine blk_drew ?_ | refine blk_alloc ?_ _)); exact BK310.out) hb); have n1_ := Aside0.mk (below_step (by repeat (first | (with_reducible first | exact HB.out | apply below_alloc | apply pw_below_drewN | apply below_drew1 | refine below_set ?_ GE310.out) | exact HB.out)) hb); clear BK310; clear HB; have BK310 := n0_; have HB := n1_; clear n0_ n1_; (try clear hb); (try clear hb2); (try clear hk); (try clear hi); have hcz39_0 : w38.cell? ⟨gb310, 0, none⟩ = some (.int .u8 a0_0) := (blk_cell BK310.out 0).trans rfl; have hcz39_1 : w38.cell? ⟨gb310, 1, none⟩ = some (.int .u8 a0_1) := (blk_cell BK310.out 1).trans rfl; have hcz39_2 : w38.cell? ⟨gb310, 2, none⟩ = some (.int .u8 a0_2) := (blk_cell BK310.out 2).trans rfl; have hcz39_3 : w38.cell? ⟨gb310, 3, none⟩ = some (.int .u8 a0_3) := (blk_cell BK310.out 3).trans rfl; have hcz39_4 : w38.cell? ⟨gb310, 4, none⟩ = some (.int .i32 a0_4) := (blk_cell BK310.out 4).trans rfl; have hfz39_0 := blk_frozen BK310.out 0; have hfz39_1 := blk_frozen BK310.out 1; have hfz39_2 := blk_frozen BK310.out 2; have hfz39_3 := blk_frozen BK310.out 3; have hfz39_4 := blk_frozen BK310.out 4))
                    go_ret
                    exact ⟨by first | rfl | (simp [errW_none, errW_some] <;> rfl) | (simp [*, errW_none, errW_some] <;> rfl), by repeat (first | (with_reducible first | exact HB.out | apply below_alloc | apply pw_below_drewN | apply below_drew1 | refine below_set ?_ GE310.out) | exact HB.out)⟩
                  · replace c37 := Bool.eq_false_iff.mpr c37
                    subst c37
                    have H1 : (some false) = some r := by rw [if_neg (show ¬ (false = true) by decide)] at H; exact H
                    clear H
                    have H := H1
                    clear H1
                    obtain rfl := Option.some.inj H
                    go_wp2_with (first | ((with_reducible refine gate_callee (f := 17) rfl ?_); refine goesL_ (some 31) rfl rfl Tryd.func17 (by kernel_rfl) rfl #[.string (t312.extract 0 (x4_1 : Int).toNat)] rfl (by (try simp only [List.map_toArray, List.map_cons, List.map_nil]); first | done | rfl | (simp only [List.length_drop, List.length_take]; rfl)) ?_; (with_reducible refine (isa_Op.calls k1 (t312.extract 0 (x4_1 : Int).toNat) t316 false _ (hL.laid (by repeat (first | (with_reducible first | exact HB.out | apply below_alloc | apply pw_below_drewN | apply below_drew1 | refine below_set ?_ GE310.out) | exact HB.out))) A31.out).mono ?_); rintro e w40 ⟨rfl, hb⟩; refine ⟨_, rfl, ?_⟩; have n0_ := Aside0.mk (blk_below (g := gb310) (o := .cells #[.int .u8 a0_0, .int .u8 a0_1, .int .u8 a0_2, .int .u8 a0_3, .int .i32 a0_4] 23 (0, 0)) (by (with_reducible repeat (first | refine blk_drewN ?_ _ | refine blk_drew ?_ | refine blk_alloc ?_ _)); exact BK310.out) hb); have n1_ := Aside0.mk (below_step (by repeat (first | (with_reducible first | exact HB.out | apply below_alloc | apply pw_below_drewN | apply below_drew1 | refine below_set ?_ GE310.out) | exact HB.out)) hb); clear BK310; clear HB; have BK310 := n0_; have HB := n1_; clear n0_ n1_; (try clear hb); (try clear hb2); (try clear hk); (try clear hi)))
                    go_ret
                    exact ⟨by first | rfl | (simp [errW_none, errW_some] <;> rfl) | (simp [*, errW_none, errW_some] <;> rfl), by repeat (first | (with_reducible first | exact HB.out | apply below_alloc | apply pw_below_drewN | apply below_drew1 | refine below_set ?_ GE310.out) | exact HB.out)⟩
              · rw [if_neg c30] at H
                exact absurd H (by simp)
            · rw [if_neg c29] at H
              exact absurd H (by simp)
    · rw [if_neg c6] at H
      have c6b0 : (t312.toList == t313.toList) = false := beq_eq_false_iff_ne.mpr c6
      have c6b1 : (t312.toList != t313.toList) = true := bne_iff_ne.mpr c6
      obtain rfl := Option.some.inj H
      go_enter Tryd.func8, Tryd.ntmps8
      go_wp2_with (first | ((with_reducible refine gate_dst (N := 1) rfl ?_); refine box_event ?hg (N := 1) ?hd (cs := #[.int .u8 a0_0, .int .u8 a0_1, .int .u8 a0_2, .int .u8 a0_3, .int .i32 a0_4]) (t := 23) ?hr ?_; (case hd => rfl); (case hg => rfl); (case hr => first | (go_simp; done) | (go_simp; rfl)); intro gb310 hg w41 hbox hb; have n0_ := Aside0.mk (below_step (by repeat (first | (with_reducible first | exact HB.out | apply below_alloc | apply pw_below_drewN | apply below_drew1) | exact HB.out)) hb); have n1_ := Aside0.mk (hbox); have n2_ := Aside0.mk ((by rw [hg]; exact (below_size (by repeat (first | (with_reducible first | exact HB.out | apply below_alloc | apply pw_below_drewN | apply below_drew1) | exact HB.out))) : w.heap.size ≤ gb310)); have n3_ := Aside0.mk ((by rw [hg]; exact (below_size (by repeat (first | (with_reducible first | exact HB.out | apply below_alloc | apply pw_below_drewN | apply below_drew1) | exact HB.out))) : w.heap.size ≤ gb310)); clear HB; have HB := n0_; have BK310 := n1_; have GW310 := n2_; have GE310 := n3_; clear n0_ n1_ n2_ n3_; clear hb hbox hg) | ((with_reducible refine gate_callee (f := 10) rfl ?_); refine goesL_ (some 7) rfl rfl Tryd.func10 (by kernel_rfl) rfl #[] rfl (by (try simp only [List.map_toArray, List.map_cons, List.map_nil]); first | done | rfl | (simp only [List.length_drop, List.length_take]; rfl)) ?_; (with_reducible refine (hibernaclelaw10_alive.calls k  true _ (hL.laid (by repeat (first | (with_reducible first | exact HB.out | apply below_alloc | apply pw_below_drewN | apply below_drew1 | refine below_set ?_ GE310.out) | exact HB.out))) A2.out).mono ?_); rintro e w42 ⟨rfl, hb⟩; refine ⟨_, rfl, ?_⟩; have n0_ := Aside0.mk (blk_below (g := gb310) (o := .cells #[.int .u8 a0_0, .int .u8 a0_1, .int .u8 a0_2, .int .u8 a0_3, .int .i32 a0_4] 23 (0, 0)) (by (with_reducible repeat (first | refine blk_drewN ?_ _ | refine blk_drew ?_ | refine blk_alloc ?_ _)); exact BK310.out) hb); have n1_ := Aside0.mk (below_step (by repeat (first | (with_reducible first | exact HB.out | apply below_alloc | apply pw_below_drewN | apply below_drew1 | refine below_set ?_ GE310.out) | exact HB.out)) hb); clear BK310; clear HB; have BK310 := n0_; have HB := n1_; clear n0_ n1_; (try clear hb); (try clear hb2); (try clear hk); (try clear hi); have hcz43_0 : w42.cell? ⟨gb310, 0, none⟩ = some (.int .u8 a0_0) := (blk_cell BK310.out 0).trans rfl; have hcz43_1 : w42.cell? ⟨gb310, 1, none⟩ = some (.int .u8 a0_1) := (blk_cell BK310.out 1).trans rfl; have hcz43_2 : w42.cell? ⟨gb310, 2, none⟩ = some (.int .u8 a0_2) := (blk_cell BK310.out 2).trans rfl; have hcz43_3 : w42.cell? ⟨gb310, 3, none⟩ = some (.int .u8 a0_3) := (blk_cell BK310.out 3).trans rfl; have hcz43_4 : w42.cell? ⟨gb310, 4, none⟩ = some (.int .i32 a0_4) := (blk_cell BK310.out 4).trans rfl; have hfz43_0 := blk_frozen BK310.out 0; have hfz43_1 := blk_frozen BK310.out 1; have hfz43_2 := blk_frozen BK310.out 2; have hfz43_3 := blk_frozen BK310.out 3; have hfz43_4 := blk_frozen BK310.out 4) | ((with_reducible refine gate_callee (f := 15) rfl ?_); refine goesL_ (some 10) rfl rfl Tryd.func15 (by kernel_rfl) rfl #[.agg #[.int .u8 a0_0, .int .u8 a0_1, .int .u8 a0_2, .int .u8 a0_3, .int .i32 a0_4]] rfl (by (try simp only [List.map_toArray, List.map_cons, List.map_nil]); first | done | rfl | (simp only [List.length_drop, List.length_take]; rfl)) ?_; (with_reducible refine (isa_Text.calls k a0_0 a0_1 a0_2 a0_3 a0_4 t312 _ (hL.laid (by repeat (first | (with_reducible first | exact HB.out | apply below_alloc | apply pw_below_drewN | apply below_drew1 | refine below_set ?_ GE310.out) | exact HB.out))) A4.out).mono ?_); rintro e w44 ⟨rfl, hb⟩; refine ⟨_, rfl, ?_⟩; have n0_ := Aside0.mk (blk_below (g := gb310) (o := .cells #[.int .u8 a0_0, .int .u8 a0_1, .int .u8 a0_2, .int .u8 a0_3, .int .i32 a0_4] 23 (0, 0)) (by (with_reducible repeat (first | refine blk_drewN ?_ _ | refine blk_drew ?_ | refine blk_alloc ?_ _)); exact BK310.out) hb); have n1_ := Aside0.mk (below_step (by repeat (first | (with_reducible first | exact HB.out | apply below_alloc | apply pw_below_drewN | apply below_drew1 | refine below_set ?_ GE310.out) | exact HB.out)) hb); clear BK310; clear HB; have BK310 := n0_; have HB := n1_; clear n0_ n1_; (try clear hb); (try clear hb2); (try clear hk); (try clear hi); have hcz45_0 : w44.cell? ⟨gb310, 0, none⟩ = some (.int .u8 a0_0) := (blk_cell BK310.out 0).trans rfl; have hcz45_1 : w44.cell? ⟨gb310, 1, none⟩ = some (.int .u8 a0_1) := (blk_cell BK310.out 1).trans rfl; have hcz45_2 : w44.cell? ⟨gb310, 2, none⟩ = some (.int .u8 a0_2) := (blk_cell BK310.out 2).trans rfl; have hcz45_3 : w44.cell? ⟨gb310, 3, none⟩ = some (.int .u8 a0_3) := (blk_cell BK310.out 3).trans rfl; have hcz45_4 : w44.cell? ⟨gb310, 4, none⟩ = some (.int .i32 a0_4) := (blk_cell BK310.out 4).trans rfl; have hfz45_0 := blk_frozen BK310.out 0; have hfz45_1 := blk_frozen BK310.out 1; have hfz45_2 := blk_frozen BK310.out 2; have hfz45_3 := blk_frozen BK310.out 3; have hfz45_4 := blk_frozen BK310.out 4) | ((with_reducible refine gate_callee (f := 16) rfl ?_); refine goesL_ (some 13) rfl rfl Tryd.func16 (by kernel_rfl) rfl #[.agg #[.int .u8 a0_0, .int .u8 a0_1, .int .u8 a0_2, .int .u8 a0_3, .int .i32 a0_4]] rfl (by (try simp only [List.map_toArray, List.map_cons, List.map_nil]); first | done | rfl | (simp only [List.length_drop, List.length_take]; rfl)) ?_; (with_reducible refine (hibernacleref10_Text.calls k a0_0 a0_1 a0_2 a0_3 a0_4 t313 _ A5.out).mono ?_); rintro e w46 ⟨rfl, hb⟩; refine ⟨_, rfl, ?_⟩; have n0_ := Aside0.mk (blk_below (g := gb310) (o := .cells #[.int .u8 a0_0, .int .u8 a0_1, .int .u8 a0_2, .int .u8 a0_3, .int .i32 a0_4] 23 (0, 0)) (by (with_reducible repeat (first | refine blk_drewN ?_ _ | refine blk_drew ?_ | refine blk_alloc ?_ _)); exact BK310.out) hb); have n1_ := Aside0.mk (below_step (by repeat (first | (with_reducible first | exact HB.out | apply below_alloc | apply pw_below_drewN | apply below_drew1 | refine below_set ?_ GE310.out) | exact HB.out)) hb); clear BK310; clear HB; have BK310 := n0_; have HB := n1_; clear n0_ n1_; (try clear hb); (try clear hb2); (try clear hk); (try clear hi)))
      go_ret
      exact ⟨by first | rfl | (simp [errW_none, errW_some] <;> rfl) | (simp [*, errW_none, errW_some] <;> rfl), by repeat (first | (with_reducible first | exact HB.out | apply below_alloc | apply pw_below_drewN | apply below_drew1 | refine below_set ?_ GE310.out) | exact HB.out)⟩
  · replace c3 := Bool.eq_false_iff.mpr c3
    subst c3
    have H1 : (some false) = some r := by rw [if_neg (show ¬ (false = true) by decide)] at H; exact H
    clear H
    have H := H1
    clear H1
    obtain rfl := Option.some.inj H
    go_enter Tryd.func8, Tryd.ntmps8
    go_wp2_with (first | ((with_reducible refine gate_dst (N := 1) rfl ?_); refine box_event ?hg (N := 1) ?hd (cs := #[.int .u8 a0_0, .int .u8 a0_1, .int .u8 a0_2, .int .u8 a0_3, .int .i32 a0_4]) (t := 23) ?hr ?_; (case hd => rfl); (case hg => rfl); (case hr => first | (go_simp; done) | (go_simp; rfl)); intro gb310 hg w47 hbox hb; have n0_ := Aside0.mk (below_step (by repeat (first | (with_reducible first | exact HB.out | apply below_alloc | apply pw_below_drewN | apply below_drew1) | exact HB.out)) hb); have n1_ := Aside0.mk (hbox); have n2_ := Aside0.mk ((by rw [hg]; exact (below_size (by repeat (first | (with_reducible first | exact HB.out | apply below_alloc | apply pw_below_drewN | apply below_drew1) | exact HB.out))) : w.heap.size ≤ gb310)); have n3_ := Aside0.mk ((by rw [hg]; exact (below_size (by repeat (first | (with_reducible first | exact HB.out | apply below_alloc | apply pw_below_drewN | apply below_drew1) | exact HB.out))) : w.heap.size ≤ gb310)); clear HB; have HB := n0_; have BK310 := n1_; have GW310 := n2_; have GE310 := n3_; clear n0_ n1_ n2_ n3_; clear hb hbox hg) | ((with_reducible refine gate_callee (f := 10) rfl ?_); refine goesL_ (some 7) rfl rfl Tryd.func10 (by kernel_rfl) rfl #[] rfl (by (try simp only [List.map_toArray, List.map_cons, List.map_nil]); first | done | rfl | (simp only [List.length_drop, List.length_take]; rfl)) ?_; (with_reducible refine (hibernaclelaw10_alive.calls k  false _ (hL.laid (by repeat (first | (with_reducible first | exact HB.out | apply below_alloc | apply pw_below_drewN | apply below_drew1 | refine below_set ?_ GE310.out) | exact HB.out))) A2.out).mono ?_); rintro e w48 ⟨rfl, hb⟩; refine ⟨_, rfl, ?_⟩; have n0_ := Aside0.mk (blk_below (g := gb310) (o := .cells #[.int .u8 a0_0, .int .u8 a0_1, .int .u8 a0_2, .int .u8 a0_3, .int .i32 a0_4] 23 (0, 0)) (by (with_reducible repeat (first | refine blk_drewN ?_ _ | refine blk_drew ?_ | refine blk_alloc ?_ _)); exact BK310.out) hb); have n1_ := Aside0.mk (below_step (by repeat (first | (with_reducible first | exact HB.out | apply below_alloc | apply pw_below_drewN | apply below_drew1 | refine below_set ?_ GE310.out) | exact HB.out)) hb); clear BK310; clear HB; have BK310 := n0_; have HB := n1_; clear n0_ n1_; (try clear hb); (try clear hb2); (try clear hk); (try clear hi)))
    go_ret
    exact ⟨by first | rfl | (simp [errW_none, errW_some] <;> rfl) | (simp [*, errW_none, errW_some] <;> rfl), by repeat (first | (with_reducible first | exact HB.out | apply below_alloc | apply pw_below_drewN | apply below_drew1 | refine below_set ?_ GE310.out) | exact HB.out)⟩
def hibernacleref10_Op.l0 : Nat → ByteArray → List ByteArray → Int → Option (Int × Bool)
  | 0, _, _, _ => none
  | k + 1, x0, x4, x5 => if x5 < (x4.length : Int) then (if 0 ≤ x5 then (if (rdOf ByteArray.empty x4 x5).toList = x0.toList then (some ((wrap64 (x5 + 1)) % 256, true)) else (hibernacleref10_Op.l0 k x0 x4 (wrap64 (x5 + 1)))) else (none)) else (some (0, false))
def hibernacleref10_Op.f (k : Nat) (a0 : ByteArray) : Option (Int × Bool) := (hibernacleref10_names.f).bind fun t318 => (hibernacleref10_Op.l0 k a0 t318 0)
theorem hibernacleref10_Op.mono_l : ∀ k, (∀ y0 y1 y2, LeO (hibernacleref10_Op.l0 k y0 y1 y2) (hibernacleref10_Op.l0 (k + 1) y0 y1 y2))
  | 0 => fun _ _ _ r h => by simp [hibernacleref10_Op.l0] at h
  | k + 1 => by
    have ih0 := hibernacleref10_Op.mono_l k
    · intro y0 y1 y2
      unfold hibernacleref10_Op.l0
      repeat' first
      | (with_reducible exact ih0 _ _ _)
      | (with_reducible exact LeO.refl _)
      | (with_reducible exact LeO.none _)
      | (with_reducible refine LeO.ite ?_ ?_)
      | (with_reducible refine LeO.bind ?_ (fun _ => ?_))
      | exact ih0 _ _ _
      | exact LeO.none _
      | refine LeO.ite ?_ ?_
      | refine LeO.bind ?_ (fun _ => ?_)
theorem hibernacleref10_Op.mono : ∀ a0 k, LeO (hibernacleref10_Op.f k a0) (hibernacleref10_Op.f (k + 1) a0) := by
  intro a0 k
  have ih0 := hibernacleref10_Op.mono_l k
  unfold hibernacleref10_Op.f
  repeat' first
      | (with_reducible exact ih0 _ _ _)
      | (with_reducible exact LeO.refl _)
      | (with_reducible exact LeO.none _)
      | (with_reducible refine LeO.ite ?_ ?_)
      | (with_reducible refine LeO.bind ?_ (fun _ => ?_))
      | exact ih0 _ _ _
      | exact LeO.none _
      | refine LeO.ite ?_ ?_
      | refine LeO.bind ?_ (fun _ => ?_)
set_option maxHeartbeats 8000000 in
set_option maxRecDepth 100000 in
theorem hibernacleref10_Op.calls (k : Nat) (a0 : ByteArray) (r1 : Int) (r2 : Bool) (w : World) (h : hibernacleref10_Op.f k a0 = some (r1, r2)) :
    Calls Tryd.prog 18 #[.string a0] w fun e w' => e = .returned (.tuple #[.int .u8 r1, .bool r2]) ∧ Below w.heap.size w w' := by
  have HB := Aside0.mk (Below.refl w.heap.size w)
  have H : ((hibernacleref10_names.f).bind fun t318 => (hibernacleref10_Op.l0 k a0 t318 0)) = some (r1, r2) := h
  clear h
  replace H := Option.bind_eq_some_iff.mp H
  obtain ⟨t318, A20, H⟩ := H
  replace H : (hibernacleref10_Op.l0 k a0 t318 0) = some (r1, r2) := H
  have A2 := Aside0.mk A20
  clear A20
  have H' := Aside0.mk H
  clear H
  go_enter Tryd.func18, Tryd.ntmps18
  go_wp2_with (first | ((with_reducible refine gate_callee (f := 29) rfl ?_); refine goesL_ (some 6) rfl rfl Tryd.func29 (by kernel_rfl) rfl #[] rfl (by (try simp only [List.map_toArray, List.map_cons, List.map_nil]); first | done | rfl | (simp only [List.length_drop, List.length_take]; rfl)) ?_; (with_reducible refine (hibernacleref10_names.calls  t318 _ A2.out).mono ?_); rintro e w3 ⟨v319, rfl, ho0, hb⟩; refine ⟨_, rfl, ?_⟩; have n0_ := Aside0.mk (Kd.R_lower ho0 (below_size (by repeat (first | (with_reducible first | exact HB.out | apply below_alloc | apply pw_below_drewN | apply below_drew1) | exact HB.out)))); have n1_ := Aside0.mk (below_step (by repeat (first | (with_reducible first | exact HB.out | apply below_alloc | apply pw_below_drewN | apply below_drew1) | exact HB.out)) hb); clear HB; have HO320 := n0_; have HB := n1_; clear n0_ n1_; (try clear hb); (try clear hb2); (try clear hk); (try clear hi); (try clear ho0)))
  go_loopg [5] k (fun kq v5 w' => ∃ (x5_1 : Int), v5 = .int .i64 x5_1 ∧ Aside0 (hibernacleref10_Op.l0 kq a0 t318 x5_1 = some (r1, r2)) ∧ Aside0 (kq ≤ k) ∧ Aside0 (Kd.R Kd.string 9 w' w.heap.size (fun _ => True) v319 t318) ∧ Aside0 (Below w.heap.size w w'))
  case atStart => exact ⟨(0), (by first | rfl | (simp; done) | (simp [*]; done)), H', ⟨Nat.le_refl _⟩, ⟨by (with_reducible repeat (first | apply Kd.R_alloc | apply Kd.R_drewN | apply Kd.R_drew)); exact HO320.out⟩, ⟨by repeat (first | (with_reducible first | exact HB.out | apply below_alloc | apply pw_below_drewN | apply below_drew1) | exact HB.out)⟩⟩
  case round =>
    clear H'
    try clear c1
    try clear c2
    try clear p2
    obtain ⟨x5_1, rfl, HA, HK1, HO_4, HB⟩ := hrel
    cases gk with
    | zero => exact absurd HA.out (by simp [hibernacleref10_Op.l0])
    | succ k1 =>
      have H := HA.out
      clear HA
      simp only [hibernacleref10_Op.l0] at H
      by_cases c4 : x5_1 < (t318.length : Int)
      · rw [if_pos c4] at H
        have c4b0 : decide (x5_1 < (t318.length : Int)) = true := decide_eq_true c4
        clear c4
        by_cases c5 : 0 ≤ x5_1
        · rw [if_pos c5] at H
          have c5b0 : decide (0 ≤ x5_1) = true := decide_eq_true c5
          clear c5
          by_cases c6 : (rdOf ByteArray.empty t318 x5_1).toList = a0.toList
          · rw [if_pos c6] at H
            have c6b0 : ((rdOf ByteArray.empty t318 x5_1).toList == a0.toList) = true := beq_iff_eq.mpr c6
            have c6b1 : ((rdOf ByteArray.empty t318 x5_1).toList != a0.toList) = false := bne_eq_false_iff_eq.mpr c6
            clear c6
            simp only [Option.some.injEq, Prod.mk.injEq] at H
            obtain ⟨rfl, rfl⟩ := H
            obtain ⟨Ao7, co7, eo7⟩ := Kd.R_slice HO_4.out
            subst eo7
            have p321 : 0 ≤ (x5_1 : Int) := of_decide_eq_true (by first | (with_reducible assumption) | assumption)
            have q321 : x5_1 < (t318.length : Int) := of_decide_eq_true (by first | (with_reducible assumption) | assumption)
            obtain ⟨ad321, e321, hx321_0⟩ := Kd.at_string (Kd.R_reads' HO_4.out).2.2 x5_1 p321 q321
            cases e321
            replace p321 := eq_true p321
            replace q321 := eq_true q321
            go_wp2
            go_ret2
            exact ⟨by first | rfl | (simp [errW_none, errW_some] <;> rfl) | (simp [*, errW_none, errW_some] <;> rfl), by repeat (first | (with_reducible first | exact HB.out | apply below_alloc | apply pw_below_drewN | apply below_drew1) | exact HB.out)⟩
          · rw [if_neg c6] at H
            have c6b0 : ((rdOf ByteArray.empty t318 x5_1).toList == a0.toList) = false := beq_eq_false_iff_ne.mpr c6
            have c6b1 : ((rdOf ByteArray.empty t318 x5_1).toList != a0.toList) = true := bne_iff_ne.mpr c6
            have H' := Aside0.mk H
            clear H
            obtain ⟨Ao8, co8, eo8⟩ := Kd.R_slice HO_4.out
            subst eo8
            have p321 : 0 ≤ (x5_1 : Int) := of_decide_eq_true (by first | (with_reducible assumption) | assumption)
            have q321 : x5_1 < (t318.length : Int) := of_decide_eq_true (by first | (with_reducible assumption) | assumption)
            obtain ⟨ad321, e321, hx321_0⟩ := Kd.at_string (Kd.R_reads' HO_4.out).2.2 x5_1 p321 q321
            cases e321
            replace p321 := eq_true p321
            replace q321 := eq_true q321
            go_wp2
            go_roundg k1
            case measure => have := HK1.out; omega
            case rel => exact ⟨(wrap64 (x5_1 + 1)), (by first | rfl | (simp; done) | (simp [*]; done)), H', ⟨by have := HK1.out; omega⟩, ⟨by (with_reducible repeat (first | apply Kd.R_alloc | apply Kd.R_drewN | apply Kd.R_drew)); exact HO_4.out⟩, ⟨by repeat (first | (with_reducible first | exact HB.out | apply below_alloc | apply pw_below_drewN | apply below_drew1) | exact HB.out)⟩⟩
        · rw [if_neg c5] at H
          exact absurd H (by simp)
      · rw [if_neg c4] at H
        have c4b0 : decide (x5_1 < (t318.length : Int)) = false := decide_eq_false c4
        clear c4
        simp only [Option.some.injEq, Prod.mk.injEq] at H
        obtain ⟨rfl, rfl⟩ := H
        obtain ⟨Ao9, co9, eo9⟩ := Kd.R_slice HO_4.out
        subst eo9
        go_wp2
        go_ret2
        exact ⟨by first | rfl | (simp [errW_none, errW_some] <;> rfl) | (simp [*, errW_none, errW_some] <;> rfl), by repeat (first | (with_reducible first | exact HB.out | apply below_alloc | apply pw_below_drewN | apply below_drew1) | exact HB.out)⟩
def hibernaclelaw10_IsaOp.f (k : Nat) (a0 : ByteArray) (a1 : Int) : Option (Bool) := (hibernaclelaw10_alive.f k).bind fun t322 => (if t322 = true then (if (a0.size : Int) > 50 then (some true) else ((isa_Op.f k a0).bind fun bt323 => ((hibernacleref10_Op.f k a0).bind fun bt325 => ((isa_Enc.f k a1 0 0 0 0).bind fun bt328 => (if bt323.1 = bt325.1 then (if (bt323.2 == bt325.2) = true then (if ((decide (bt323.1 > 0)) == bt323.2) = true then (if a1 ≥ 1 then (some ((bt328.2 == 0) == (decide (a1 ≤ 31)))) else (some ((bt328.2 == 0) == false))) else (some false)) else (some false)) else (some false)))))) else (some false))
theorem hibernaclelaw10_IsaOp.mono : ∀ a0 a1 k, LeO (hibernaclelaw10_IsaOp.f k a0 a1) (hibernaclelaw10_IsaOp.f (k + 1) a0 a1) := by
  intro a0 a1 k
  unfold hibernaclelaw10_IsaOp.f
  repeat' first
      | (with_reducible exact hibernaclelaw10_alive.mono _)
      | (with_reducible exact hibernacleref10_Op.mono _ _)
      | (with_reducible exact isa_Enc.mono _ _ _ _ _ _)
      | (with_reducible exact isa_Op.mono _ _)
      | (with_reducible exact LeO.refl _)
      | (with_reducible exact LeO.none _)
      | (with_reducible refine LeO.ite ?_ ?_)
      | (with_reducible refine LeO.bind ?_ (fun _ => ?_))
      | exact hibernaclelaw10_alive.mono _
      | exact hibernacleref10_Op.mono _ _
      | exact isa_Enc.mono _ _ _ _ _ _
      | exact isa_Op.mono _ _
      | exact LeO.none _
      | refine LeO.ite ?_ ?_
      | refine LeO.bind ?_ (fun _ => ?_)
set_option maxHeartbeats 8000000 in
set_option maxRecDepth 100000 in
theorem hibernaclelaw10_IsaOp.calls (k : Nat) (a0 : ByteArray) (a1 : Int) (r : Bool) (w : World) (hL : Aside0 (Laid w)) (h : hibernaclelaw10_IsaOp.f k a0 a1 = some r) :
    Calls Tryd.prog 9 #[.string a0, .int .u8 a1] w fun e w' => e = .returned (.bool r) ∧ Below w.heap.size w w' := by
  have hu23 := Tryd.underlying23
  have HB := Aside0.mk (Below.refl w.heap.size w)
  have H : ((hibernaclelaw10_alive.f k).bind fun t322 => (if t322 = true then (if (a0.size : Int) > 50 then (some true) else ((isa_Op.f k a0).bind fun bt323 => ((hibernacleref10_Op.f k a0).bind fun bt325 => ((isa_Enc.f k a1 0 0 0 0).bind fun bt328 => (if bt323.1 = bt325.1 then (if (bt323.2 == bt325.2) = true then (if ((decide (bt323.1 > 0)) == bt323.2) = true then (if a1 ≥ 1 then (some ((bt328.2 == 0) == (decide (a1 ≤ 31)))) else (some ((bt328.2 == 0) == false))) else (some false)) else (some false)) else (some false)))))) else (some false))) = some r := h
  clear h
  replace H := Option.bind_eq_some_iff.mp H
  obtain ⟨t322, A30, H⟩ := H
  replace H : (if t322 = true then (if (a0.size : Int) > 50 then (some true) else ((isa_Op.f k a0).bind fun bt323 => ((hibernacleref10_Op.f k a0).bind fun bt325 => ((isa_Enc.f k a1 0 0 0 0).bind fun bt328 => (if bt323.1 = bt325.1 then (if (bt323.2 == bt325.2) = true then (if ((decide (bt323.1 > 0)) == bt323.2) = true then (if a1 ≥ 1 then (some ((bt328.2 == 0) == (decide (a1 ≤ 31)))) else (some ((bt328.2 == 0) == false))) else (some false)) else (some false)) else (some false)))))) else (some false)) = some r := H
  have A3 := Aside0.mk A30
  clear A30
  by_cases c4 : t322 = true
  · subst c4
    have H1 : (if (a0.size : Int) > 50 then (some true) else ((isa_Op.f k a0).bind fun bt323 => ((hibernacleref10_Op.f k a0).bind fun bt325 => ((isa_Enc.f k a1 0 0 0 0).bind fun bt328 => (if bt323.1 = bt325.1 then (if (bt323.2 == bt325.2) = true then (if ((decide (bt323.1 > 0)) == bt323.2) = true then (if a1 ≥ 1 then (some ((bt328.2 == 0) == (decide (a1 ≤ 31)))) else (some ((bt328.2 == 0) == false))) else (some false)) else (some false)) else (some false)))))) = some r := by rw [if_pos rfl] at H; exact H
    clear H
    have H := H1
    clear H1
    by_cases c5 : (a0.size : Int) > 50
    · rw [if_pos c5] at H
      have c5b0 : decide (50 < (a0.size : Int)) = true := decide_eq_true c5
      have c5b1 : decide (50 < a0.size) = true := decide_eq_true (by omega)
      clear c5
      obtain rfl := Option.some.inj H
      go_enter Tryd.func9, Tryd.ntmps9
      go_wp2_with (first | ((with_reducible refine gate_callee (f := 10) rfl ?_); refine goesL_ (some 12) rfl rfl Tryd.func10 (by kernel_rfl) rfl #[] rfl (by (try simp only [List.map_toArray, List.map_cons, List.map_nil]); first | done | rfl | (simp only [List.length_drop, List.length_take]; rfl)) ?_; (with_reducible refine (hibernaclelaw10_alive.calls k  true _ (hL.laid (by repeat (first | (with_reducible first | exact HB.out | apply below_alloc | apply pw_below_drewN | apply below_drew1) | exact HB.out))) A3.out).mono ?_); rintro e w6 ⟨rfl, hb⟩; refine ⟨_, rfl, ?_⟩; have n0_ := Aside0.mk (below_step (by repeat (first | (with_reducible first | exact HB.out | apply below_alloc | apply pw_below_drewN | apply below_drew1) | exact HB.out)) hb); clear HB; have HB := n0_; clear n0_; (try clear hb); (try clear hb2); (try clear hk); (try clear hi)))
      go_ret
      exact ⟨by first | rfl | (simp [errW_none, errW_some] <;> rfl) | (simp [*, errW_none, errW_some] <;> rfl), by repeat (first | (with_reducible first | exact HB.out | apply below_alloc | apply pw_below_drewN | apply below_drew1) | exact HB.out)⟩
    · rw [if_neg c5] at H
      have c5b0 : decide (50 < (a0.size : Int)) = false := decide_eq_false c5
      have c5b1 : decide (50 < a0.size) = false := decide_eq_false (by omega)
      clear c5
      replace H := Option.bind_eq_some_iff.mp H
      obtain ⟨⟨t323, t324⟩, A70, H⟩ := H
      replace H : ((hibernacleref10_Op.f k a0).bind fun bt325 => ((isa_Enc.f k a1 0 0 0 0).bind fun bt328 => (if t323 = bt325.1 then (if (t324 == bt325.2) = true then (if ((decide (t323 > 0)) == t324) = true then (if a1 ≥ 1 then (some ((bt328.2 == 0) == (decide (a1 ≤ 31)))) else (some ((bt328.2 == 0) == false))) else (some false)) else (some false)) else (some false)))) = some r := H
      have A7 := Aside0.mk A70
      clear A70
      replace H := Option.bind_eq_some_iff.mp H
      obtain ⟨⟨t325, t326⟩, A80, H⟩ := H
      replace H : ((isa_Enc.f k a1 0 0 0 0).bind fun bt328 => (if t323 = t325 then (if (t324 == t326) = true then (if ((decide (t323 > 0)) == t324) = true then (if a1 ≥ 1 then (some ((bt328.2 == 0) == (decide (a1 ≤ 31)))) else (some ((bt328.2 == 0) == false))) else (some false)) else (some false)) else (some false))) = some r := H
      have A8 := Aside0.mk A80
      clear A80
      replace H := Option.bind_eq_some_iff.mp H
      obtain ⟨⟨t328, t329⟩, A90, H⟩ := H
      replace H : (if t323 = t325 then (if (t324 == t326) = true then (if ((decide (t323 > 0)) == t324) = true then (if a1 ≥ 1 then (some ((t329 == 0) == (decide (a1 ≤ 31)))) else (some ((t329 == 0) == false))) else (some false)) else (some false)) else (some false)) = some r := H
      have A9 := Aside0.mk A90
      clear A90
      by_cases c10 : t323 = t325
      · rw [if_pos c10] at H
        have c10b0 : (t323 == t325) = true := beq_iff_eq.mpr c10
        have c10b1 : (t323 != t325) = false := bne_eq_false_iff_eq.mpr c10
        clear c10
        by_cases c11 : (t324 == t326) = true
        · rw [if_pos c11] at H
          have c11b0 : (t324 == t326) = true := c11
          (try (have c11b1 : decide (t324 = t326) = true := by simpa using c11))
          (try (have c11b2 : (t324 == t326) = true := by simpa using c11))
          clear c11
          by_cases c12 : ((decide (t323 > 0)) == t324) = true
          · rw [if_pos c12] at H
            have c12b0 : ((decide (t323 > 0)) == t324) = true := c12
            (try (have c12b1 : decide ((decide (t323 > 0)) = t324) = true := by simpa using c12))
            (try (have c12b2 : ((decide (t323 > 0)) == t324) = true := by simpa using c12))
            clear c12
            by_cases c13 : a1 ≥ 1
            · rw [if_pos c13] at H
              have c13b0 : decide (1 ≤ a1) = true := decide_eq_true c13
              clear c13
              obtain rfl := Option.some.inj H
              go_enter Tryd.func9, Tryd.ntmps9
              go_wp2_with (first | ((with_reducible refine gate_callee (f := 10) rfl ?_); refine goesL_ (some 12) rfl rfl Tryd.func10 (by kernel_rfl) rfl #[] rfl (by (try simp only [List.map_toArray, List.map_cons, List.map_nil]); first | done | rfl | (simp only [List.length_drop, List.length_take]; rfl)) ?_; (with_reducible refine (hibernaclelaw10_alive.calls k  true _ (hL.laid (by repeat (first | (with_reducible first | exact HB.out | apply below_alloc | apply pw_below_drewN | apply below_drew1) | exact HB.out))) A3.out).mono ?_); rintro e w14 ⟨rfl, hb⟩; refine ⟨_, rfl, ?_⟩; have n0_ := Aside0.mk (below_step (by repeat (first | (with_reducible first | exact HB.out | apply below_alloc | apply pw_below_drewN | apply below_drew1) | exact HB.out)) hb); clear HB; have HB := n0_; clear n0_; (try clear hb); (try clear hb2); (try clear hk); (try clear hi)) | ((with_reducible refine gate_callee (f := 17) rfl ?_); refine goesL_ (some 19) rfl rfl Tryd.func17 (by kernel_rfl) rfl #[.string a0] rfl (by (try simp only [List.map_toArray, List.map_cons, List.map_nil]); first | done | rfl | (simp only [List.length_drop, List.length_take]; rfl)) ?_; (with_reducible refine (isa_Op.calls k a0 t323 t324 _ (hL.laid (by repeat (first | (with_reducible first | exact HB.out | apply below_alloc | apply pw_below_drewN | apply below_drew1) | exact HB.out))) A7.out).mono ?_); rintro e w15 ⟨rfl, hb⟩; refine ⟨_, rfl, ?_⟩; have n0_ := Aside0.mk (below_step (by repeat (first | (with_reducible first | exact HB.out | apply below_alloc | apply pw_below_drewN | apply below_drew1) | exact HB.out)) hb); clear HB; have HB := n0_; clear n0_; (try clear hb); (try clear hb2); (try clear hk); (try clear hi)) | ((with_reducible refine gate_callee (f := 18) rfl ?_); refine goesL_ (some 24) rfl rfl Tryd.func18 (by kernel_rfl) rfl #[.string a0] rfl (by (try simp only [List.map_toArray, List.map_cons, List.map_nil]); first | done | rfl | (simp only [List.length_drop, List.length_take]; rfl)) ?_; (with_reducible refine (hibernacleref10_Op.calls k a0 t325 t326 _ A8.out).mono ?_); rintro e w16 ⟨rfl, hb⟩; refine ⟨_, rfl, ?_⟩; have n0_ := Aside0.mk (below_step (by repeat (first | (with_reducible first | exact HB.out | apply below_alloc | apply pw_below_drewN | apply below_drew1) | exact HB.out)) hb); clear HB; have HB := n0_; clear n0_; (try clear hb); (try clear hb2); (try clear hk); (try clear hi)) | ((with_reducible refine gate_dst (N := 9) rfl ?_); refine box_event ?hg (N := 9) ?hd (cs := #[.int .u8 0, .int .u8 0, .int .u8 0, .int .u8 0, .int .i32 0]) (t := 23) ?hr ?_; (case hd => rfl); (case hg => rfl); (case hr => first | (go_simp; done) | (go_simp; rfl)); intro gb327 hg w17 hbox hb; have n0_ := Aside0.mk (below_step (by repeat (first | (with_reducible first | exact HB.out | apply below_alloc | apply pw_below_drewN | apply below_drew1) | exact HB.out)) hb); have n1_ := Aside0.mk (hbox); have n2_ := Aside0.mk ((by rw [hg]; exact (below_size (by repeat (first | (with_reducible first | exact HB.out | apply below_alloc | apply pw_below_drewN | apply below_drew1) | exact HB.out))) : w.heap.size ≤ gb327)); have n3_ := Aside0.mk ((by rw [hg]; exact (below_size (by repeat (first | (with_reducible first | exact HB.out | apply below_alloc | apply pw_below_drewN | apply below_drew1) | exact HB.out))) : w.heap.size ≤ gb327)); clear HB; have HB := n0_; have BK327 := n1_; have GW327 := n2_; have GE327 := n3_; clear n0_ n1_ n2_ n3_; clear hb hbox hg; have hcz18_0 : w17.cell? ⟨gb327, 0, none⟩ = some (.int .u8 0) := (blk_cell BK327.out 0).trans rfl; have hcz18_1 : w17.cell? ⟨gb327, 1, none⟩ = some (.int .u8 0) := (blk_cell BK327.out 1).trans rfl; have hcz18_2 : w17.cell? ⟨gb327, 2, none⟩ = some (.int .u8 0) := (blk_cell BK327.out 2).trans rfl; have hcz18_3 : w17.cell? ⟨gb327, 3, none⟩ = some (.int .u8 0) := (blk_cell BK327.out 3).trans rfl; have hcz18_4 : w17.cell? ⟨gb327, 4, none⟩ = some (.int .i32 0) := (blk_cell BK327.out 4).trans rfl; have hfz18_0 := blk_frozen BK327.out 0; have hfz18_1 := blk_frozen BK327.out 1; have hfz18_2 := blk_frozen BK327.out 2; have hfz18_3 := blk_frozen BK327.out 3; have hfz18_4 := blk_frozen BK327.out 4) | ((with_reducible refine gate_callee (f := 11) rfl ?_); refine goesL_ (some 31) rfl rfl Tryd.func11 (by kernel_rfl) rfl #[.agg #[.int .u8 a1, .int .u8 0, .int .u8 0, .int .u8 0, .int .i32 0]] rfl (by (try simp only [List.map_toArray, List.map_cons, List.map_nil]); first | done | rfl | (simp only [List.length_drop, List.length_take]; rfl)) ?_; (with_reducible refine (isa_Enc.calls k a1 0 0 0 0 t328 t329 _ A9.out).mono ?_); rintro e w19 ⟨rfl, hb⟩; refine ⟨_, rfl, ?_⟩; have n0_ := Aside0.mk (blk_below (g := gb327) (o := .cells #[.int .u8 a1, .int .u8 0, .int .u8 0, .int .u8 0, .int .i32 0] 23 (0, 0)) (by (with_reducible repeat (first | refine blk_drewN ?_ _ | refine blk_drew ?_ | refine blk_alloc ?_ _)); refine blk_put (cs := #[.int .u8 a1, .int .u8 0, .int .u8 0, .int .u8 0, .int .i32 0]) ?_ 4 _ rfl; (with_reducible repeat (first | refine blk_drewN ?_ _ | refine blk_drew ?_ | refine blk_alloc ?_ _)); refine blk_put (cs := #[.int .u8 a1, .int .u8 0, .int .u8 0, .int .u8 0, .int .i32 0]) ?_ 3 _ rfl; (with_reducible repeat (first | refine blk_drewN ?_ _ | refine blk_drew ?_ | refine blk_alloc ?_ _)); refine blk_put (cs := #[.int .u8 a1, .int .u8 0, .int .u8 0, .int .u8 0, .int .i32 0]) ?_ 2 _ rfl; (with_reducible repeat (first | refine blk_drewN ?_ _ | refine blk_drew ?_ | refine blk_alloc ?_ _)); refine blk_put (cs := #[.int .u8 a1, .int .u8 0, .int .u8 0, .int .u8 0, .int .i32 0]) ?_ 1 _ rfl; (with_reducible repeat (first | refine blk_drewN ?_ _ | refine blk_drew ?_ | refine blk_alloc ?_ _)); refine blk_put (cs := #[.int .u8 0, .int .u8 0, .int .u8 0, .int .u8 0, .int .i32 0]) ?_ 0 _ rfl; (with_reducible repeat (first | refine blk_drewN ?_ _ | refine blk_drew ?_ | refine blk_alloc ?_ _)); exact BK327.out) hb); have n1_ := Aside0.mk (below_step (by repeat (first | (with_reducible first | exact HB.out | apply below_alloc | apply pw_below_drewN | apply below_drew1 | refine below_set ?_ GE327.out) | exact HB.out)) hb); clear BK327; clear HB; have BK327 := n0_; have HB := n1_; clear n0_ n1_; (try clear hb); (try clear hb2); (try clear hk); (try clear hi)))
              go_ret
              exact ⟨by first | rfl | (simp [errW_none, errW_some] <;> rfl) | (simp [*, errW_none, errW_some] <;> rfl), by repeat (first | (with_reducible first | exact HB.out | apply below_alloc | apply pw_below_drewN | apply below_drew1 | refine below_set ?_ GE327.out) | exact HB.out)⟩
            · rw [if_neg c13] at H
              have c13b0 : decide (1 ≤ a1) = false := decide_eq_false c13
              clear c13
              obtain rfl := Option.some.inj H
              go_enter Tryd.func9, Tryd.ntmps9
              go_wp2_with (first | ((with_reducible refine gate_callee (f := 10) rfl ?_); refine goesL_ (some 12) rfl rfl Tryd.func10 (by kernel_rfl) rfl #[] rfl (by (try simp only [List.map_toArray, List.map_cons, List.map_nil]); first | done | rfl | (simp only [List.length_drop, List.length_take]; rfl)) ?_; (with_reducible refine (hibernaclelaw10_alive.calls k  true _ (hL.laid (by repeat (first | (with_reducible first | exact HB.out | apply below_alloc | apply pw_below_drewN | apply below_drew1) | exact HB.out))) A3.out).mono ?_); rintro e w20 ⟨rfl, hb⟩; refine ⟨_, rfl, ?_⟩; have n0_ := Aside0.mk (below_step (by repeat (first | (with_reducible first | exact HB.out | apply below_alloc | apply pw_below_drewN | apply below_drew1) | exact HB.out)) hb); clear HB; have HB := n0_; clear n0_; (try clear hb); (try clear hb2); (try clear hk); (try clear hi)) | ((with_reducible refine gate_callee (f := 17) rfl ?_); refine goesL_ (some 19) rfl rfl Tryd.func17 (by kernel_rfl) rfl #[.string a0] rfl (by (try simp only [List.map_toArray, List.map_cons, List.map_nil]); first | done | rfl | (simp only [List.length_drop, List.length_take]; rfl)) ?_; (with_reducible refine (isa_Op.calls k a0 t323 t324 _ (hL.laid (by repeat (first | (with_reducible first | exact HB.out | apply below_alloc | apply pw_below_drewN | apply below_drew1) | exact HB.out))) A7.out).mono ?_); rintro e w21 ⟨rfl, hb⟩; refine ⟨_, rfl, ?_⟩; have n0_ := Aside0.mk (below_step (by repeat (first | (with_reducible first | exact HB.out | apply below_alloc | apply pw_below_drewN | apply below_drew1) | exact HB.out)) hb); clear HB; have HB := n0_; clear n0_; (try clear hb); (try clear hb2); (try clear hk); (try clear hi)) | ((with_reducible refine gate_callee (f := 18) rfl ?_); refine goesL_ (some 24) rfl rfl Tryd.func18 (by kernel_rfl) rfl #[.string a0] rfl (by (try simp only [List.map_toArray, List.map_cons, List.map_nil]); first | done | rfl | (simp only [List.length_drop, List.length_take]; rfl)) ?_; (with_reducible refine (hibernacleref10_Op.calls k a0 t325 t326 _ A8.out).mono ?_); rintro e w22 ⟨rfl, hb⟩; refine ⟨_, rfl, ?_⟩; have n0_ := Aside0.mk (below_step (by repeat (first | (with_reducible first | exact HB.out | apply below_alloc | apply pw_below_drewN | apply below_drew1) | exact HB.out)) hb); clear HB; have HB := n0_; clear n0_; (try clear hb); (try clear hb2); (try clear hk); (try clear hi)) | ((with_reducible refine gate_dst (N := 9) rfl ?_); refine box_event ?hg (N := 9) ?hd (cs := #[.int .u8 0, .int .u8 0, .int .u8 0, .int .u8 0, .int .i32 0]) (t := 23) ?hr ?_; (case hd => rfl); (case hg => rfl); (case hr => first | (go_simp; done) | (go_simp; rfl)); intro gb327 hg w23 hbox hb; have n0_ := Aside0.mk (below_step (by repeat (first | (with_reducible first | exact HB.out | apply below_alloc | apply pw_below_drewN | apply below_drew1) | exact HB.out)) hb); have n1_ := Aside0.mk (hbox); have n2_ := Aside0.mk ((by rw [hg]; exact (below_size (by repeat (first | (with_reducible first | exact HB.out | apply below_alloc | apply pw_below_drewN | apply below_drew1) | exact HB.out))) : w.heap.size ≤ gb327)); have n3_ := Aside0.mk ((by rw [hg]; exact (below_size (by repeat (first | (with_reducible first | exact HB.out | apply below_alloc | apply pw_below_drewN | apply below_drew1) | exact HB.out))) : w.heap.size ≤ gb327)); clear HB; have HB := n0_; have BK327 := n1_; have GW327 := n2_; have GE327 := n3_; clear n0_ n1_ n2_ n3_; clear hb hbox hg; have hcz24_0 : w23.cell? ⟨gb327, 0, none⟩ = some (.int .u8 0) := (blk_cell BK327.out 0).trans rfl; have hcz24_1 : w23.cell? ⟨gb327, 1, none⟩ = some (.int .u8 0) := (blk_cell BK327.out 1).trans rfl; have hcz24_2 : w23.cell? ⟨gb327, 2, none⟩ = some (.int .u8 0) := (blk_cell BK327.out 2).trans rfl; have hcz24_3 : w23.cell? ⟨gb327, 3, none⟩ = some (.int .u8 0) := (blk_cell BK327.out 3).trans rfl; have hcz24_4 : w23.cell? ⟨gb327, 4, none⟩ = some (.int .i32 0) := (blk_cell BK327.out 4).trans rfl; have hfz24_0 := blk_frozen BK327.out 0; have hfz24_1 := blk_frozen BK327.out 1; have hfz24_2 := blk_frozen BK327.out 2; have hfz24_3 := blk_frozen BK327.out 3; have hfz24_4 := blk_frozen BK327.out 4) | ((with_reducible refine gate_callee (f := 11) rfl ?_); refine goesL_ (some 31) rfl rfl Tryd.func11 (by kernel_rfl) rfl #[.agg #[.int .u8 a1, .int .u8 0, .int .u8 0, .int .u8 0, .int .i32 0]] rfl (by (try simp only [List.map_toArray, List.map_cons, List.map_nil]); first | done | rfl | (simp only [List.length_drop, List.length_take]; rfl)) ?_; (with_reducible refine (isa_Enc.calls k a1 0 0 0 0 t328 t329 _ A9.out).mono ?_); rintro e w25 ⟨rfl, hb⟩; refine ⟨_, rfl, ?_⟩; have n0_ := Aside0.mk (blk_below (g := gb327) (o := .cells #[.int .u8 a1, .int .u8 0, .int .u8 0, .int .u8 0, .int .i32 0] 23 (0, 0)) (by (with_reducible repeat (first | refine blk_drewN ?_ _ | refine blk_drew ?_ | refine blk_alloc ?_ _)); refine blk_put (cs := #[.int .u8 a1, .int .u8 0, .int .u8 0, .int .u8 0, .int .i32 0]) ?_ 4 _ rfl; (with_reducible repeat (first | refine blk_drewN ?_ _ | refine blk_drew ?_ | refine blk_alloc ?_ _)); refine blk_put (cs := #[.int .u8 a1, .int .u8 0, .int .u8 0, .int .u8 0, .int .i32 0]) ?_ 3 _ rfl; (with_reducible repeat (first | refine blk_drewN ?_ _ | refine blk_drew ?_ | refine blk_alloc ?_ _)); refine blk_put (cs := #[.int .u8 a1, .int .u8 0, .int .u8 0, .int .u8 0, .int .i32 0]) ?_ 2 _ rfl; (with_reducible repeat (first | refine blk_drewN ?_ _ | refine blk_drew ?_ | refine blk_alloc ?_ _)); refine blk_put (cs := #[.int .u8 a1, .int .u8 0, .int .u8 0, .int .u8 0, .int .i32 0]) ?_ 1 _ rfl; (with_reducible repeat (first | refine blk_drewN ?_ _ | refine blk_drew ?_ | refine blk_alloc ?_ _)); refine blk_put (cs := #[.int .u8 0, .int .u8 0, .int .u8 0, .int .u8 0, .int .i32 0]) ?_ 0 _ rfl; (with_reducible repeat (first | refine blk_drewN ?_ _ | refine blk_drew ?_ | refine blk_alloc ?_ _)); exact BK327.out) hb); have n1_ := Aside0.mk (below_step (by repeat (first | (with_reducible first | exact HB.out | apply below_alloc | apply pw_below_drewN | apply below_drew1 | refine below_set ?_ GE327.out) | exact HB.out)) hb); clear BK327; clear HB; have BK327 := n0_; have HB := n1_; clear n0_ n1_; (try clear hb); (try clear hb2); (try clear hk); (try clear hi)))
              go_ret
              exact ⟨by first | rfl | (simp [errW_none, errW_some] <;> rfl) | (simp [*, errW_none, errW_some] <;> rfl), by repeat (first | (with_reducible first | exact HB.out | apply below_alloc | apply pw_below_drewN | apply below_drew1 | refine below_set ?_ GE327.out) | exact HB.out)⟩
          · rw [if_neg c12] at H
            have c12b0 : ((decide (t323 > 0)) == t324) = false := by simpa using c12
            (try (have c12b1 : decide ((decide (t323 > 0)) = t324) = false := by simpa using c12))
            (try (have c12b2 : ((decide (t323 > 0)) == t324) = false := by simpa using c12))
            (try (have c12b3 : ¬ ((decide (t323 > 0)) = t324) := by simpa using c12))
            clear c12
            obtain rfl := Option.some.inj H
            go_enter Tryd.func9, Tryd.ntmps9
            go_wp2_with (first | ((with_reducible refine gate_callee (f := 10) rfl ?_); refine goesL_ (some 12) rfl rfl Tryd.func10 (by kernel_rfl) rfl #[] rfl (by (try simp only [List.map_toArray, List.map_cons, List.map_nil]); first | done | rfl | (simp only [List.length_drop, List.length_take]; rfl)) ?_; (with_reducible refine (hibernaclelaw10_alive.calls k  true _ (hL.laid (by repeat (first | (with_reducible first | exact HB.out | apply below_alloc | apply pw_below_drewN | apply below_drew1) | exact HB.out))) A3.out).mono ?_); rintro e w26 ⟨rfl, hb⟩; refine ⟨_, rfl, ?_⟩; have n0_ := Aside0.mk (below_step (by repeat (first | (with_reducible first | exact HB.out | apply below_alloc | apply pw_below_drewN | apply below_drew1) | exact HB.out)) hb); clear HB; have HB := n0_; clear n0_; (try clear hb); (try clear hb2); (try clear hk); (try clear hi)) | ((with_reducible refine gate_callee (f := 17) rfl ?_); refine goesL_ (some 19) rfl rfl Tryd.func17 (by kernel_rfl) rfl #[.string a0] rfl (by (try simp only [List.map_toArray, List.map_cons, List.map_nil]); first | done | rfl | (simp only [List.length_drop, List.length_take]; rfl)) ?_; (with_reducible refine (isa_Op.calls k a0 t323 t324 _ (hL.laid (by repeat (first | (with_reducible first | exact HB.out | apply below_alloc | apply pw_below_drewN | apply below_drew1) | exact HB.out))) A7.out).mono ?_); rintro e w27 ⟨rfl, hb⟩; refine ⟨_, rfl, ?_⟩; have n0_ := Aside0.mk (below_step (by repeat (first | (with_reducible first | exact HB.out | apply below_alloc | apply pw_below_drewN | apply below_drew1) | exact HB.out)) hb); clear HB; have HB := n0_; clear n0_; (try clear hb); (try clear hb2); (try clear hk); (try clear hi)) | ((with_reducible refine gate_callee (f := 18) rfl ?_); refine goesL_ (some 24) rfl rfl Tryd.func18 (by kernel_rfl) rfl #[.string a0] rfl (by (try simp only [List.map_toArray, List.map_cons, List.map_nil]); first | done | rfl | (simp only [List.length_drop, List.length_take]; rfl)) ?_; (with_reducible refine (hibernacleref10_Op.calls k a0 t325 t326 _ A8.out).mono ?_); rintro e w28 ⟨rfl, hb⟩; refine ⟨_, rfl, ?_⟩; have n0_ := Aside0.mk (below_step (by repeat (first | (with_reducible first | exact HB.out | apply below_alloc | apply pw_below_drewN | apply below_drew1) | exact HB.out)) hb); clear HB; have HB := n0_; clear n0_; (try clear hb); (try clear hb2); (try clear hk); (try clear hi)) | ((with_reducible refine gate_dst (N := 9) rfl ?_); refine box_event ?hg (N := 9) ?hd (cs := #[.int .u8 0, .int .u8 0, .int .u8 0, .int .u8 0, .int .i32 0]) (t := 23) ?hr ?_; (case hd => rfl); (case hg => rfl); (case hr => first | (go_simp; done) | (go_simp; rfl)); intro gb327 hg w29 hbox hb; have n0_ := Aside0.mk (below_step (by repeat (first | (with_reducible first | exact HB.out | apply below_alloc | apply pw_below_drewN | apply below_drew1) | exact HB.out)) hb); have n1_ := Aside0.mk (hbox); have n2_ := Aside0.mk ((by rw [hg]; exact (below_size (by repeat (first | (with_reducible first | exact HB.out | apply below_alloc | apply pw_below_drewN | apply below_drew1) | exact HB.out))) : w.heap.size ≤ gb327)); have n3_ := Aside0.mk ((by rw [hg]; exact (below_size (by repeat (first | (with_reducible first | exact HB.out | apply below_alloc | apply pw_below_drewN | apply below_drew1) | exact HB.out))) : w.heap.size ≤ gb327)); clear HB; have HB := n0_; have BK327 := n1_; have GW327 := n2_; have GE327 := n3_; clear n0_ n1_ n2_ n3_; clear hb hbox hg; have hcz30_0 : w29.cell? ⟨gb327, 0, none⟩ = some (.int .u8 0) := (blk_cell BK327.out 0).trans rfl; have hcz30_1 : w29.cell? ⟨gb327, 1, none⟩ = some (.int .u8 0) := (blk_cell BK327.out 1).trans rfl; have hcz30_2 : w29.cell? ⟨gb327, 2, none⟩ = some (.int .u8 0) := (blk_cell BK327.out 2).trans rfl; have hcz30_3 : w29.cell? ⟨gb327, 3, none⟩ = some (.int .u8 0) := (blk_cell BK327.out 3).trans rfl; have hcz30_4 : w29.cell? ⟨gb327, 4, none⟩ = some (.int .i32 0) := (blk_cell BK327.out 4).trans rfl; have hfz30_0 := blk_frozen BK327.out 0; have hfz30_1 := blk_frozen BK327.out 1; have hfz30_2 := blk_frozen BK327.out 2; have hfz30_3 := blk_frozen BK327.out 3; have hfz30_4 := blk_frozen BK327.out 4) | ((with_reducible refine gate_callee (f := 11) rfl ?_); refine goesL_ (some 31) rfl rfl Tryd.func11 (by kernel_rfl) rfl #[.agg #[.int .u8 a1, .int .u8 0, .int .u8 0, .int .u8 0, .int .i32 0]] rfl (by (try simp only [List.map_toArray, List.map_cons, List.map_nil]); first | done | rfl | (simp only [List.length_drop, List.length_take]; rfl)) ?_; (with_reducible refine (isa_Enc.calls k a1 0 0 0 0 t328 t329 _ A9.out).mono ?_); rintro e w31 ⟨rfl, hb⟩; refine ⟨_, rfl, ?_⟩; have n0_ := Aside0.mk (blk_below (g := gb327) (o := .cells #[.int .u8 a1, .int .u8 0, .int .u8 0, .int .u8 0, .int .i32 0] 23 (0, 0)) (by (with_reducible repeat (first | refine blk_drewN ?_ _ | refine blk_drew ?_ | refine blk_alloc ?_ _)); refine blk_put (cs := #[.int .u8 a1, .int .u8 0, .int .u8 0, .int .u8 0, .int .i32 0]) ?_ 4 _ rfl; (with_reducible repeat (first | refine blk_drewN ?_ _ | refine blk_drew ?_ | refine blk_alloc ?_ _)); refine blk_put (cs := #[.int .u8 a1, .int .u8 0, .int .u8 0, .int .u8 0, .int .i32 0]) ?_ 3 _ rfl; (with_reducible repeat (first | refine blk_drewN ?_ _ | refine blk_drew ?_ | refine blk_alloc ?_ _)); refine blk_put (cs := #[.int .u8 a1, .int .u8 0, .int .u8 0, .int .u8 0, .int .i32 0]) ?_ 2 _ rfl; (with_reducible repeat (first | refine blk_drewN ?_ _ | refine blk_drew ?_ | refine blk_alloc ?_ _)); refine blk_put (cs := #[.int .u8 a1, .int .u8 0, .int .u8 0, .int .u8 0, .int .i32 0]) ?_ 1 _ rfl; (with_reducible repeat (first | refine blk_drewN ?_ _ | refine blk_drew ?_ | refine blk_alloc ?_ _)); refine blk_put (cs := #[.int .u8 0, .int .u8 0, .int .u8 0, .int .u8 0, .int .i32 0]) ?_ 0 _ rfl; (with_reducible repeat (first | refine blk_drewN ?_ _ | refine blk_drew ?_ | refine blk_alloc ?_ _)); exact BK327.out) hb); have n1_ := Aside0.mk (below_step (by repeat (first | (with_reducible first | exact HB.out | apply below_alloc | apply pw_below_drewN | apply below_drew1 | refine below_set ?_ GE327.out) | exact HB.out)) hb); clear BK327; clear HB; have BK327 := n0_; have HB := n1_; clear n0_ n1_; (try clear hb); (try clear hb2); (try clear hk); (try clear hi)))
            go_ret
            exact ⟨by first | rfl | (simp [errW_none, errW_some] <;> rfl) | (simp [*, errW_none, errW_some] <;> rfl), by repeat (first | (with_reducible first | exact HB.out | apply below_alloc | apply pw_below_drewN | apply below_drew1 | refine below_set ?_ GE327.out) | exact HB.out)⟩
        · rw [if_neg c11] at H
          have c11b0 : (t324 == t326) = false := by simpa using c11
          (try (have c11b1 : decide (t324 = t326) = false := by simpa using c11))
          (try (have c11b2 : (t324 == t326) = false := by simpa using c11))
          (try (have c11b3 : ¬ (t324 = t326) := by simpa using c11))
          clear c11
          obtain rfl := Option.some.inj H
          go_enter Tryd.func9, Tryd.ntmps9
          go_wp2_with (first | ((with_reducible refine gate_callee (f := 10) rfl ?_); refine goesL_ (some 12) rfl rfl Tryd.func10 (by kernel_rfl) rfl #[] rfl (by (try simp only [List.map_toArray, List.map_cons, List.map_nil]); first | done | rfl | (simp only [List.length_drop, List.length_take]; rfl)) ?_; (with_reducible refine (hibernaclelaw10_alive.calls k  true _ (hL.laid (by repeat (first | (with_reducible first | exact HB.out | apply below_alloc | apply pw_below_drewN | apply below_drew1) | exact HB.out))) A3.out).mono ?_); rintro e w32 ⟨rfl, hb⟩; refine ⟨_, rfl, ?_⟩; have n0_ := Aside0.mk (below_step (by repeat (first | (with_reducible first | exact HB.out | apply below_alloc | apply pw_below_drewN | apply below_drew1) | exact HB.out)) hb); clear HB; have HB := n0_; clear n0_; (try clear hb); (try clear hb2); (try clear hk); (try clear hi)) | ((with_reducible refine gate_callee (f := 17) rfl ?_); refine goesL_ (some 19) rfl rfl Tryd.func17 (by kernel_rfl) rfl #[.string a0] rfl (by (try simp only [List.map_toArray, List.map_cons, List.map_nil]); first | done | rfl | (simp only [List.length_drop, List.length_take]; rfl)) ?_; (with_reducible refine (isa_Op.calls k a0 t323 t324 _ (hL.laid (by repeat (first | (with_reducible first | exact HB.out | apply below_alloc | apply pw_below_drewN | apply below_drew1) | exact HB.out))) A7.out).mono ?_); rintro e w33 ⟨rfl, hb⟩; refine ⟨_, rfl, ?_⟩; have n0_ := Aside0.mk (below_step (by repeat (first | (with_reducible first | exact HB.out | apply below_alloc | apply pw_below_drewN | apply below_drew1) | exact HB.out)) hb); clear HB; have HB := n0_; clear n0_; (try clear hb); (try clear hb2); (try clear hk); (try clear hi)) | ((with_reducible refine gate_callee (f := 18) rfl ?_); refine goesL_ (some 24) rfl rfl Tryd.func18 (by kernel_rfl) rfl #[.string a0] rfl (by (try simp only [List.map_toArray, List.map_cons, List.map_nil]); first | done | rfl | (simp only [List.length_drop, List.length_take]; rfl)) ?_; (with_reducible refine (hibernacleref10_Op.calls k a0 t325 t326 _ A8.out).mono ?_); rintro e w34 ⟨rfl, hb⟩; refine ⟨_, rfl, ?_⟩; have n0_ := Aside0.mk (below_step (by repeat (first | (with_reducible first | exact HB.out | apply below_alloc | apply pw_below_drewN | apply below_drew1) | exact HB.out)) hb); clear HB; have HB := n0_; clear n0_; (try clear hb); (try clear hb2); (try clear hk); (try clear hi)) | ((with_reducible refine gate_dst (N := 9) rfl ?_); refine box_event ?hg (N := 9) ?hd (cs := #[.int .u8 0, .int .u8 0, .int .u8 0, .int .u8 0, .int .i32 0]) (t := 23) ?hr ?_; (case hd => rfl); (case hg => rfl); (case hr => first | (go_simp; done) | (go_simp; rfl)); intro gb327 hg w35 hbox hb; have n0_ := Aside0.mk (below_step (by repeat (first | (with_reducible first | exact HB.out | apply below_alloc | apply pw_below_drewN | apply below_drew1) | exact HB.out)) hb); have n1_ := Aside0.mk (hbox); have n2_ := Aside0.mk ((by rw [hg]; exact (below_size (by repeat (first | (with_reducible first | exact HB.out | apply below_alloc | apply pw_below_drewN | apply below_drew1) | exact HB.out))) : w.heap.size ≤ gb327)); have n3_ := Aside0.mk ((by rw [hg]; exact (below_size (by repeat (first | (with_reducible first | exact HB.out | apply below_alloc | apply pw_below_drewN | apply below_drew1) | exact HB.out))) : w.heap.size ≤ gb327)); clear HB; have HB := n0_; have BK327 := n1_; have GW327 := n2_; have GE327 := n3_; clear n0_ n1_ n2_ n3_; clear hb hbox hg; have hcz36_0 : w35.cell? ⟨gb327, 0, none⟩ = some (.int .u8 0) := (blk_cell BK327.out 0).trans rfl; have hcz36_1 : w35.cell? ⟨gb327, 1, none⟩ = some (.int .u8 0) := (blk_cell BK327.out 1).trans rfl; have hcz36_2 : w35.cell? ⟨gb327, 2, none⟩ = some (.int .u8 0) := (blk_cell BK327.out 2).trans rfl; have hcz36_3 : w35.cell? ⟨gb327, 3, none⟩ = some (.int .u8 0) := (blk_cell BK327.out 3).trans rfl; have hcz36_4 : w35.cell? ⟨gb327, 4, none⟩ = some (.int .i32 0) := (blk_cell BK327.out 4).trans rfl; have hfz36_0 := blk_frozen BK327.out 0; have hfz36_1 := blk_frozen BK327.out 1; have hfz36_2 := blk_frozen BK327.out 2; have hfz36_3 := blk_frozen BK327.out 3; have hfz36_4 := blk_frozen BK327.out 4) | ((with_reducible refine gate_callee (f := 11) rfl ?_); refine goesL_ (some 31) rfl rfl Tryd.func11 (by kernel_rfl) rfl #[.agg #[.int .u8 a1, .int .u8 0, .int .u8 0, .int .u8 0, .int .i32 0]] rfl (by (try simp only [List.map_toArray, List.map_cons, List.map_nil]); first | done | rfl | (simp only [List.length_drop, List.length_take]; rfl)) ?_; (with_reducible refine (isa_Enc.calls k a1 0 0 0 0 t328 t329 _ A9.out).mono ?_); rintro e w37 ⟨rfl, hb⟩; refine ⟨_, rfl, ?_⟩; have n0_ := Aside0.mk (blk_below (g := gb327) (o := .cells #[.int .u8 a1, .int .u8 0, .int .u8 0, .int .u8 0, .int .i32 0] 23 (0, 0)) (by (with_reducible repeat (first | refine blk_drewN ?_ _ | refine blk_drew ?_ | refine blk_alloc ?_ _)); refine blk_put (cs := #[.int .u8 a1, .int .u8 0, .int .u8 0, .int .u8 0, .int .i32 0]) ?_ 4 _ rfl; (with_reducible repeat (first | refine blk_drewN ?_ _ | refine blk_drew ?_ | refine blk_alloc ?_ _)); refine blk_put (cs := #[.int .u8 a1, .int .u8 0, .int .u8 0, .int .u8 0, .int .i32 0]) ?_ 3 _ rfl; (with_reducible repeat (first | refine blk_drewN ?_ _ | refine blk_drew ?_ | refine blk_alloc ?_ _)); refine blk_put (cs := #[.int .u8 a1, .int .u8 0, .int .u8 0, .int .u8 0, .int .i32 0]) ?_ 2 _ rfl; (with_reducible repeat (first | refine blk_drewN ?_ _ | refine blk_drew ?_ | refine blk_alloc ?_ _)); refine blk_put (cs := #[.int .u8 a1, .int .u8 0, .int .u8 0, .int .u8 0, .int .i32 0]) ?_ 1 _ rfl; (with_reducible repeat (first | refine blk_drewN ?_ _ | refine blk_drew ?_ | refine blk_alloc ?_ _)); refine blk_put (cs := #[.int .u8 0, .int .u8 0, .int .u8 0, .int .u8 0, .int .i32 0]) ?_ 0 _ rfl; (with_reducible repeat (first | refine blk_drewN ?_ _ | refine blk_drew ?_ | refine blk_alloc ?_ _)); exact BK327.out) hb); have n1_ := Aside0.mk (below_step (by repeat (first | (with_reducible first | exact HB.out | apply below_alloc | apply pw_below_drewN | apply below_drew1 | refine below_set ?_ GE327.out) | exact HB.out)) hb); clear BK327; clear HB; have BK327 := n0_; have HB := n1_; clear n0_ n1_; (try clear hb); (try clear hb2); (try clear hk); (try clear hi)))
          go_ret
          exact ⟨by first | rfl | (simp [errW_none, errW_some] <;> rfl) | (simp [*, errW_none, errW_some] <;> rfl), by repeat (first | (with_reducible first | exact HB.out | apply below_alloc | apply pw_below_drewN | apply below_drew1 | refine below_set ?_ GE327.out) | exact HB.out)⟩
      · rw [if_neg c10] at H
        have c10b0 : (t323 == t325) = false := beq_eq_false_iff_ne.mpr c10
        have c10b1 : (t323 != t325) = true := bne_iff_ne.mpr c10
        obtain rfl := Option.some.inj H
        go_enter Tryd.func9, Tryd.ntmps9
        go_wp2_with (first | ((with_reducible refine gate_callee (f := 10) rfl ?_); refine goesL_ (some 12) rfl rfl Tryd.func10 (by kernel_rfl) rfl #[] rfl (by (try simp only [List.map_toArray, List.map_cons, List.map_nil]); first | done | rfl | (simp only [List.length_drop, List.length_take]; rfl)) ?_; (with_reducible refine (hibernaclelaw10_alive.calls k  true _ (hL.laid (by repeat (first | (with_reducible first | exact HB.out | apply below_alloc | apply pw_below_drewN | apply below_drew1) | exact HB.out))) A3.out).mono ?_); rintro e w38 ⟨rfl, hb⟩; refine ⟨_, rfl, ?_⟩; have n0_ := Aside0.mk (below_step (by repeat (first | (with_reducible first | exact HB.out | apply below_alloc | apply pw_below_drewN | apply below_drew1) | exact HB.out)) hb); clear HB; have HB := n0_; clear n0_; (try clear hb); (try clear hb2); (try clear hk); (try clear hi)) | ((with_reducible refine gate_callee (f := 17) rfl ?_); refine goesL_ (some 19) rfl rfl Tryd.func17 (by kernel_rfl) rfl #[.string a0] rfl (by (try simp only [List.map_toArray, List.map_cons, List.map_nil]); first | done | rfl | (simp only [List.length_drop, List.length_take]; rfl)) ?_; (with_reducible refine (isa_Op.calls k a0 t323 t324 _ (hL.laid (by repeat (first | (with_reducible first | exact HB.out | apply below_alloc | apply pw_below_drewN | apply below_drew1) | exact HB.out))) A7.out).mono ?_); rintro e w39 ⟨rfl, hb⟩; refine ⟨_, rfl, ?_⟩; have n0_ := Aside0.mk (below_step (by repeat (first | (with_reducible first | exact HB.out | apply below_alloc | apply pw_below_drewN | apply below_drew1) | exact HB.out)) hb); clear HB; have HB := n0_; clear n0_; (try clear hb); (try clear hb2); (try clear hk); (try clear hi)) | ((with_reducible refine gate_callee (f := 18) rfl ?_); refine goesL_ (some 24) rfl rfl Tryd.func18 (by kernel_rfl) rfl #[.string a0] rfl (by (try simp only [List.map_toArray, List.map_cons, List.map_nil]); first | done | rfl | (simp only [List.length_drop, List.length_take]; rfl)) ?_; (with_reducible refine (hibernacleref10_Op.calls k a0 t325 t326 _ A8.out).mono ?_); rintro e w40 ⟨rfl, hb⟩; refine ⟨_, rfl, ?_⟩; have n0_ := Aside0.mk (below_step (by repeat (first | (with_reducible first | exact HB.out | apply below_alloc | apply pw_below_drewN | apply below_drew1) | exact HB.out)) hb); clear HB; have HB := n0_; clear n0_; (try clear hb); (try clear hb2); (try clear hk); (try clear hi)) | ((with_reducible refine gate_dst (N := 9) rfl ?_); refine box_event ?hg (N := 9) ?hd (cs := #[.int .u8 0, .int .u8 0, .int .u8 0, .int .u8 0, .int .i32 0]) (t := 23) ?hr ?_; (case hd => rfl); (case hg => rfl); (case hr => first | (go_simp; done) | (go_simp; rfl)); intro gb327 hg w41 hbox hb; have n0_ := Aside0.mk (below_step (by repeat (first | (with_reducible first | exact HB.out | apply below_alloc | apply pw_below_drewN | apply below_drew1) | exact HB.out)) hb); have n1_ := Aside0.mk (hbox); have n2_ := Aside0.mk ((by rw [hg]; exact (below_size (by repeat (first | (with_reducible first | exact HB.out | apply below_alloc | apply pw_below_drewN | apply below_drew1) | exact HB.out))) : w.heap.size ≤ gb327)); have n3_ := Aside0.mk ((by rw [hg]; exact (below_size (by repeat (first | (with_reducible first | exact HB.out | apply below_alloc | apply pw_below_drewN | apply below_drew1) | exact HB.out))) : w.heap.size ≤ gb327)); clear HB; have HB := n0_; have BK327 := n1_; have GW327 := n2_; have GE327 := n3_; clear n0_ n1_ n2_ n3_; clear hb hbox hg; have hcz42_0 : w41.cell? ⟨gb327, 0, none⟩ = some (.int .u8 0) := (blk_cell BK327.out 0).trans rfl; have hcz42_1 : w41.cell? ⟨gb327, 1, none⟩ = some (.int .u8 0) := (blk_cell BK327.out 1).trans rfl; have hcz42_2 : w41.cell? ⟨gb327, 2, none⟩ = some (.int .u8 0) := (blk_cell BK327.out 2).trans rfl; have hcz42_3 : w41.cell? ⟨gb327, 3, none⟩ = some (.int .u8 0) := (blk_cell BK327.out 3).trans rfl; have hcz42_4 : w41.cell? ⟨gb327, 4, none⟩ = some (.int .i32 0) := (blk_cell BK327.out 4).trans rfl; have hfz42_0 := blk_frozen BK327.out 0; have hfz42_1 := blk_frozen BK327.out 1; have hfz42_2 := blk_frozen BK327.out 2; have hfz42_3 := blk_frozen BK327.out 3; have hfz42_4 := blk_frozen BK327.out 4) | ((with_reducible refine gate_callee (f := 11) rfl ?_); refine goesL_ (some 31) rfl rfl Tryd.func11 (by kernel_rfl) rfl #[.agg #[.int .u8 a1, .int .u8 0, .int .u8 0, .int .u8 0, .int .i32 0]] rfl (by (try simp only [List.map_toArray, List.map_cons, List.map_nil]); first | done | rfl | (simp only [List.length_drop, List.length_take]; rfl)) ?_; (with_reducible refine (isa_Enc.calls k a1 0 0 0 0 t328 t329 _ A9.out).mono ?_); rintro e w43 ⟨rfl, hb⟩; refine ⟨_, rfl, ?_⟩; have n0_ := Aside0.mk (blk_below (g := gb327) (o := .cells #[.int .u8 a1, .int .u8 0, .int .u8 0, .int .u8 0, .int .i32 0] 23 (0, 0)) (by (with_reducible repeat (first | refine blk_drewN ?_ _ | refine blk_drew ?_ | refine blk_alloc ?_ _)); refine blk_put (cs := #[.int .u8 a1, .int .u8 0, .int .u8 0, .int .u8 0, .int .i32 0]) ?_ 4 _ rfl; (with_reducible repeat (first | refine blk_drewN ?_ _ | refine blk_drew ?_ | refine blk_alloc ?_ _)); refine blk_put (cs := #[.int .u8 a1, .int .u8 0, .int .u8 0, .int .u8 0, .int .i32 0]) ?_ 3 _ rfl; (with_reducible repeat (first | refine blk_drewN ?_ _ | refine blk_drew ?_ | refine blk_alloc ?_ _)); refine blk_put (cs := #[.int .u8 a1, .int .u8 0, .int .u8 0, .int .u8 0, .int .i32 0]) ?_ 2 _ rfl; (with_reducible repeat (first | refine blk_drewN ?_ _ | refine blk_drew ?_ | refine blk_alloc ?_ _)); refine blk_put (cs := #[.int .u8 a1, .int .u8 0, .int .u8 0, .int .u8 0, .int .i32 0]) ?_ 1 _ rfl; (with_reducible repeat (first | refine blk_drewN ?_ _ | refine blk_drew ?_ | refine blk_alloc ?_ _)); refine blk_put (cs := #[.int .u8 0, .int .u8 0, .int .u8 0, .int .u8 0, .int .i32 0]) ?_ 0 _ rfl; (with_reducible repeat (first | refine blk_drewN ?_ _ | refine blk_drew ?_ | refine blk_alloc ?_ _)); exact BK327.out) hb); have n1_ := Aside0.mk (below_step (by repeat (first | (with_reducible first | exact HB.out | apply below_alloc | apply pw_below_drewN | apply below_drew1 | refine below_set ?_ GE327.out) | exact HB.out)) hb); clear BK327; clear HB; have BK327 := n0_; have HB := n1_; clear n0_ n1_; (try clear hb); (try clear hb2); (try clear hk); (try clear hi)))
        go_ret
        exact ⟨by first | rfl | (simp [errW_none, errW_some] <;> rfl) | (simp [*, errW_none, errW_some] <;> rfl), by repeat (first | (with_reducible first | exact HB.out | apply below_alloc | apply pw_below_drewN | apply below_drew1 | refine below_set ?_ GE327.out) | exact HB.out)⟩
  · replace c4 := Bool.eq_false_iff.mpr c4
    subst c4
    have H1 : (some false) = some r := by rw [if_neg (show ¬ (false = true) by decide)] at H; exact H
    clear H
    have H := H1
    clear H1
    obtain rfl := Option.some.inj H
    go_enter Tryd.func9, Tryd.ntmps9
    go_wp2_with (first | ((with_reducible refine gate_callee (f := 10) rfl ?_); refine goesL_ (some 12) rfl rfl Tryd.func10 (by kernel_rfl) rfl #[] rfl (by (try simp only [List.map_toArray, List.map_cons, List.map_nil]); first | done | rfl | (simp only [List.length_drop, List.length_take]; rfl)) ?_; (with_reducible refine (hibernaclelaw10_alive.calls k  false _ (hL.laid (by repeat (first | (with_reducible first | exact HB.out | apply below_alloc | apply pw_below_drewN | apply below_drew1) | exact HB.out))) A3.out).mono ?_); rintro e w44 ⟨rfl, hb⟩; refine ⟨_, rfl, ?_⟩; have n0_ := Aside0.mk (below_step (by repeat (first | (with_reducible first | exact HB.out | apply below_alloc | apply pw_below_drewN | apply below_drew1) | exact HB.out)) hb); clear HB; have HB := n0_; clear n0_; (try clear hb); (try clear hb2); (try clear hk); (try clear hi)))
    go_ret
    exact ⟨by first | rfl | (simp [errW_none, errW_some] <;> rfl) | (simp [*, errW_none, errW_some] <;> rfl), by repeat (first | (with_reducible first | exact HB.out | apply below_alloc | apply pw_below_drewN | apply below_drew1) | exact HB.out)⟩
end Go.Proofs.YthdfkbkenklcaaaDoor.P
end
