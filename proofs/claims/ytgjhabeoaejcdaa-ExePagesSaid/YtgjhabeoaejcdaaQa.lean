/- The plain law of the program's pages, first part: numbers, bytes, zeros, pages. -/
import Derived.Test.YtgjhabeoaejcdaaGb
import Derived.Test.YtgjhabeoaejcdaaPx0
import Derived.Test.YtgjhabeoaejcdaaPx3
namespace Go.Proofs.Ytgjhabeoaejcdaa.Q
open Go.RowKit Go.Proofs.Ytgjhabeoaejcdaa.P Go.Proofs.YtgjhabeoaejcdaaW.PrintWords Go.Proofs.YtgjhabeoaejcdaaW.PrintLast Go.Proofs.YtgjhabeoaejcdaaW.PrintMore

theorem str_append (a b : List Int) : strOfNums (a ++ b) = strOfNums a ++ strOfNums b := by
  apply ByteArray.ext
  rw [ByteArray.data_append]
  simp [strOfNums]
theorem str_nil : strOfNums [] = (⟨#[]⟩ : ByteArray) := rfl
theorem app_nil (a : ByteArray) : a ++ (⟨#[]⟩ : ByteArray) = a := by
  apply ByteArray.ext; rw [ByteArray.data_append]; simp
theorem nil_app (a : ByteArray) : (⟨#[]⟩ : ByteArray) ++ a = a := by
  apply ByteArray.ext; rw [ByteArray.data_append]; simp
theorem app_assoc (a b c : ByteArray) : a ++ b ++ c = a ++ (b ++ c) := by
  apply ByteArray.ext; simp only [ByteArray.data_append, Array.append_assoc]

/-- So many zeros. -/
def zs (n : Nat) : ByteArray := strOfNums (List.replicate n 0)
theorem zs_size (n : Nat) : (zs n).size = n := by rw [zs, strOfNums_size, List.length_replicate]
theorem zs_succ (n : Nat) : zs (n + 1) = (⟨#[0]⟩ : ByteArray) ++ zs n := by
  unfold zs; rw [show List.replicate (n + 1) (0 : Int) = [0] ++ List.replicate n 0 from rfl, str_append]; rfl
theorem repeat_zs (n : Nat) (h : n ≤ 140737488355328) : strings_Repeat.f (⟨#[0]⟩ : ByteArray) n = some (zs n) := by
  unfold strings_Repeat.f
  have h1 : (⟨#[0]⟩ : ByteArray).size = 1 := rfl
  rw [if_pos ⟨by omega, by omega, by rw [h1]; omega⟩]
  congr 1
  have : ∀ m, Lib.repeatL [0] m = List.replicate m 0 := by
    intro m
    induction m with
    | zero => rfl
    | succ m ih => simp [Lib.repeatL, ih, List.replicate_succ]
  show (⟨(Lib.repeatL [0] ((n : Int)).toNat).toArray⟩ : ByteArray) = _
  rw [this, Int.toNat_natCast]
  unfold zs strOfNums
  rw [List.map_replicate]
  rfl

theorem tdiv_nn {a b : Int} (h : 0 ≤ a) : Int.tdiv a b = a / b := Int.tdiv_eq_ediv_of_nonneg h
theorem tmod_nn {a b : Int} (h : 0 ≤ a) : Int.tmod a b = a % b := Int.tmod_eq_emod_of_nonneg h
/-- How many pages so many bytes need. -/
def pg (n : Nat) : Nat := (n + 127) / 128
theorem exe_pages_eq (n : Nat) (h : n ≤ 4611686018427387904) : exe_pages.f n = some (pg n : Int) := by
  unfold exe_pages.f pg
  rw [wrap64_id (n := (n : Int) + 128) (by omega) (by omega), wrap64_id (n := (n : Int) + 128 - 1) (by omega) (by omega), tdiv_nn (by omega), wrap64_id (by omega) (by omega)]
  rw [Option.some.injEq]; omega
theorem u64_nn (x : Int) : 0 ≤ IntKind.u64.wrap x ∧ IntKind.u64.wrap x < 18446744073709551616 := by rw [u64_wrap]; omega
theorem rd_nat (l : List Int) (i : Nat) : rd l (i : Int) = l.getD i 0 := by unfold rd; rw [Int.toNat_natCast]
theorem drop_getD (l : List Int) (i : Nat) (h : i < l.length) : l.drop i = l.getD i 0 :: l.drop (i + 1) := by
  rw [List.drop_eq_getElem_cons h, List.getD_eq_getElem?_getD, List.getElem?_eq_getElem h]; rfl

/-- The words' bytes. -/
def tx (l : List Int) : ByteArray := strOfNums (textNums l)
theorem tx_size (l : List Int) : (tx l).size = 4 * l.length := by rw [tx, strOfNums_size, textNums_length]
theorem exe_text_eq (l : List Int) (hl : l.length ≤ 100000) : exe_text.f l = some (tx l) := by
  unfold exe_text.f; rw [if_pos (by omega)]; rfl

end Go.Proofs.Ytgjhabeoaejcdaa.Q
