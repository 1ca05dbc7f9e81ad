-- Printed for this claim and put together by wip/tools/prune.py.
import Derived.Test.YtgjhabeoaejcdaaRows
import Derived.WalkKit
import Derived.ProofKit
import Derived.OpenShut
import Derived.ShutString
import Derived.ChangeOld
import Derived.Below
import Derived.SizedLaws
import Derived.Lib.SmallJoins
import Derived.Laws.BitsLemmas
import Derived.Test.YtgjhabeoaejcdaaMWords1
import Derived.Test.YtgjhabeoaejcdaaMWords2
import Derived.Test.YtgjhabeoaejcdaaMWords3
import Derived.Test.YtgjhabeoaejcdaaMWords4
import Derived.Test.YtgjhabeoaejcdaaMWords5
import Derived.Test.YtgjhabeoaejcdaaMWords6
import Derived.Test.YtgjhabeoaejcdaaMWords7
import Derived.Test.YtgjhabeoaejcdaaMWords8
set_option linter.unusedVariables false
set_option linter.unusedSimpArgs false
section
namespace Go.Proofs.Ytgjhabeoaejcdaa.Ex
set_option linter.unusedSimpArgs false
set_option linter.unusedVariables false
open Go.ChangeShapes Go.WideShapes Go.ChangeAt Go.RowKit Go.Joins Go.Proofs.YtgjhabeoaejcdaaW.PrintWords
open Go.ChangeMaps (open_string shut_string)
theorem own : ownKnob Try.prog.godebug = none := by kernel_rfl
theorem laidOut : laidOutB Try.prog = true := by kernel_rfl
end Go.Proofs.Ytgjhabeoaejcdaa.Ex
end
section
namespace Go.Proofs.Ytgjhabeoaejcdaa.Q
open Go.RowKit Go.Proofs.Ytgjhabeoaejcdaa.P Go.Proofs.YtgjhabeoaejcdaaW.PrintWords Go.Proofs.YtgjhabeoaejcdaaW.PrintLast Go.Proofs.YtgjhabeoaejcdaaW.PrintMore
theorem str_append (a b : List Int) : strOfNums (a ++ b) = strOfNums a ++ strOfNums b := by
  apply ByteArray.ext
  rw [ByteArray.data_append]
  simp [strOfNums]
theorem app_nil (a : ByteArray) : a ++ (⟨#[]⟩ : ByteArray) = a := by
  apply ByteArray.ext; rw [ByteArray.data_append]; simp
theorem nil_app (a : ByteArray) : (⟨#[]⟩ : ByteArray) ++ a = a := by
  apply ByteArray.ext; rw [ByteArray.data_append]; simp
theorem app_assoc (a b c : ByteArray) : a ++ b ++ c = a ++ (b ++ c) := by
  apply ByteArray.ext; simp only [ByteArray.data_append, Array.append_assoc]
def zs (n : Nat) : ByteArray := strOfNums (List.replicate n 0)
theorem zs_size (n : Nat) : (zs n).size = n := by rw [zs, strOfNums_size, List.length_replicate]
theorem repeat_zs (n : Nat) (h : n ≤ 140737488355328) : strings_Repeat.f (⟨#[0]⟩ : ByteArray) n = some (zs n) := by
  unfold strings_Repeat.f
  have h1 : (⟨#[0]⟩ : ByteArray).size = 1 := rfl
  rw [if_pos ⟨by omega, by omega, by rw [h1]; omega⟩]
  congr 1
  have : ∀ m, Lib.repeatL [0] m = List.replicate m 0 := by
    intro m
    induction m with
    | zero => rfl
    | succ m ih => simp [Lib.repeatL, ih, List.replicate_succ]
  show (⟨(Lib.repeatL [0] ((n : Int)).toNat).toArray⟩ : ByteArray) = _
  rw [this, Int.toNat_natCast]
  unfold zs strOfNums
  rw [List.map_replicate]
  rfl
theorem tdiv_nn {a b : Int} (h : 0 ≤ a) : Int.tdiv a b = a / b := Int.tdiv_eq_ediv_of_nonneg h
theorem tmod_nn {a b : Int} (h : 0 ≤ a) : Int.tmod a b = a % b := Int.tmod_eq_emod_of_nonneg h
def pg (n : Nat) : Nat := (n + 127) / 128
theorem exe_pages_eq (n : Nat) (h : n ≤ 4611686018427387904) : exe_pages.f n = some (pg n : Int) := by
  unfold exe_pages.f pg
  rw [wrap64_id (n := (n : Int) + 128) (by omega) (by omega), wrap64_id (n := (n : Int) + 128 - 1) (by omega) (by omega), tdiv_nn (by omega), wrap64_id (by omega) (by omega)]
  rw [Option.some.injEq]; omega
theorem drop_getD (l : List Int) (i : Nat) (h : i < l.length) : l.drop i = l.getD i 0 :: l.drop (i + 1) := by
  rw [List.drop_eq_getElem_cons h, List.getD_eq_getElem?_getD, List.getElem?_eq_getElem h]; rfl
def tx (l : List Int) : ByteArray := strOfNums (textNums l)
theorem tx_size (l : List Int) : (tx l).size = 4 * l.length := by rw [tx, strOfNums_size, textNums_length]
theorem exe_text_eq (l : List Int) (hl : l.length ≤ 100000) : exe_text.f l = some (tx l) := by
  unfold exe_text.f; rw [if_pos (by omega)]; rfl
end Go.Proofs.Ytgjhabeoaejcdaa.Q
end
section
namespace Go.Proofs.Ytgjhabeoaejcdaa.Q
open Go.RowKit Go.Proofs.Ytgjhabeoaejcdaa.P Go.Proofs.YtgjhabeoaejcdaaW.PrintWords Go.Proofs.YtgjhabeoaejcdaaW.PrintLast Go.Proofs.YtgjhabeoaejcdaaW.PrintMore
def chk (l : List Int) (b : ByteArray) (c e : Int) : Int :=
  if 1 ≤ l.length ∧ l.length ≤ 448 ∧ 0 ≤ c ∧ c ≤ 1792 ∧ e % 4 = 0 ∧ e < 4 * (l.length : Int) ∧ pg (4 * l.length) + pg (b.size + c.toNat) ≤ 14 then 0 else 1
theorem u32_id {n : Int} (h0 : 0 ≤ n) (h1 : n < 4294967296) : IntKind.u32.wrap n = n := by
  unfold IntKind.wrap
  simp [IntKind.bits, IntKind.signed]
  omega
theorem exe_check (l : List Int) (b : ByteArray) (c e : Int) (hb : b.size ≤ 1000000000) (he0 : 0 ≤ e) : exe_Check.f l b c e = some (chk l b c e) := by
  unfold exe_Check.f chk
  by_cases h1 : l.length < 1
  · rw [if_pos (by omega), if_neg (by omega)]
  rw [if_neg (by omega)]
  by_cases h2 : 448 < l.length
  · rw [if_pos (by omega), if_neg (by omega)]
  rw [if_neg (by omega)]
  by_cases h3 : c < 0
  · rw [if_pos h3, if_neg (by omega)]
  rw [if_neg h3]
  by_cases h4 : 1792 < c
  · rw [if_pos (by omega), if_neg (by omega)]
  rw [if_neg (by omega), tmod_nn he0]
  by_cases h5 : e % 4 = 0
  · rw [if_pos h5, wrap64_id (n := 4 * (l.length : Int)) (by omega) (by omega), u32_id (n := 4 * (l.length : Int)) (by omega) (by omega)]
    by_cases h6 : e < 4 * (l.length : Int)
    · have e1 : 4 * (l.length : Int) = ((4 * l.length : Nat) : Int) := by omega
      have e2 : (b.size : Int) + c = ((b.size + c.toNat : Nat) : Int) := by omega
      have p1 : pg (4 * l.length) ≤ 15 := by unfold pg; omega
      have p2 : pg (b.size + c.toNat) ≤ 100000000 := by unfold pg; omega
      rw [if_neg (by omega), e1, exe_pages_eq _ (by omega), Option.bind_some, wrap64_id (n := (b.size : Int) + c) (by omega) (by omega), e2, exe_pages_eq _ (by omega), Option.bind_some,
        wrap64_id (n := (pg (4 * l.length) : Int) + (pg (b.size + c.toNat) : Int)) (by omega) (by omega)]
      by_cases h7 : pg (4 * l.length) + pg (b.size + c.toNat) ≤ 14
      · rw [if_neg (by omega), if_pos (by omega)]
      · rw [if_pos (by omega), if_neg (by omega)]
    · rw [if_pos (by omega), if_neg (by omega)]
  · rw [if_neg h5, if_neg (by omega)]
def page (s : ByteArray) (i : Nat) : ByteArray := (s ++ zs (128 * pg s.size - s.size)).extract (128 * i) (128 * i + 128)
def pagesOf (s : ByteArray) (at_ : Int) (wr : Bool) : List S33 := (List.range (pg s.size)).map fun i => ⟨at_ + (i : Nat), page s i, wr⟩
theorem pagesOf_length (s : ByteArray) (at_ : Int) (wr : Bool) : (pagesOf s at_ wr).length = pg s.size := by simp [pagesOf]
theorem zs_add (a b : Nat) : zs (a + b) = zs a ++ zs b := by unfold zs; rw [← List.replicate_append_replicate, str_append]
theorem extract_all (s : ByteArray) (n : Nat) (h : s.size ≤ n) : s.extract 0 n = s := by
  apply ByteArray.ext
  rw [ByteArray.data_extract]
  apply Array.toList_inj.mp
  rw [Array.toList_extract, List.extract_eq_take_drop]
  simp
  have : s.data.size = s.size := rfl
  rw [List.take_of_length_le (by rw [Array.length_toList]; omega)]
theorem extract_none (s : ByteArray) (a b : Nat) (h : s.size ≤ a ∨ b ≤ a) : s.extract a b = ⟨#[]⟩ := by
  have h1 : (s.extract a b).size = 0 := by rw [ByteArray.size_extract]; omega
  apply ByteArray.ext
  exact Array.eq_empty_of_size_eq_zero h1
theorem zs_extract (n m : Nat) (h : m ≤ n) : (zs n).extract 0 m = zs m := by
  obtain ⟨d, rfl⟩ := Nat.exists_eq_add_of_le h
  rw [zs_add, ByteArray.extract_append, zs_size, extract_all _ _ (by rw [zs_size]; omega), extract_none _ _ _ (by omega), app_nil]
theorem page_eq (s : ByteArray) (i : Nat) (h : i < pg s.size) :
    s.extract (128 * i) (min s.size (128 * i + 128)) ++ zs (128 - (s.extract (128 * i) (min s.size (128 * i + 128))).size) = page s i := by
  unfold pg at h
  unfold page
  rw [ByteArray.extract_append]
  have hp : pg s.size = (s.size + 127) / 128 := rfl
  have e1 : (s.extract (128 * i) (min s.size (128 * i + 128))).size = min s.size (128 * i + 128) - 128 * i := by rw [ByteArray.size_extract]; omega
  by_cases hl : 128 * i + 128 ≤ s.size
  · rw [e1, Nat.min_eq_right hl, extract_none (zs _) _ _ (by omega), show 128 - (128 * i + 128 - 128 * i) = 0 by omega]; rfl
  · have e2 : s.extract (128 * i) (min s.size (128 * i + 128)) = s.extract (128 * i) (128 * i + 128) := by
      apply ByteArray.ext
      rw [ByteArray.data_extract, ByteArray.data_extract]
      apply Array.toList_inj.mp
      rw [Array.toList_extract, Array.toList_extract, List.extract_eq_take_drop, List.extract_eq_take_drop]
      have : s.data.size = s.size := rfl
      rw [List.take_of_length_le (by rw [List.length_drop, Array.length_toList]; omega), List.take_of_length_le (by rw [List.length_drop, Array.length_toList]; omega)]
    rw [e1, e2, Nat.min_eq_left (by omega), show 128 * i - s.size = 0 by omega, zs_extract _ _ (by omega)]
    congr 2
    omega
theorem range_drop_map {α : Type} (n i : Nat) (f : Nat → α) (h : i < n) : ((List.range n).drop i).map f = f i :: ((List.range n).drop (i + 1)).map f := by
  rw [List.drop_eq_getElem_cons (by simpa using h)]
  simp
theorem exe_cut_loop (s : ByteArray) (at_ : Int) (wr : Bool) (hs : s.size ≤ 1000000) (ha0 : 0 ≤ at_) (ha1 : at_ ≤ 1000000) : ∀ (d i : Nat) (acc : List S33), i + d = pg s.size → acc.length = i →
    Ev (fun k => exe_cut.l0 k s at_ wr acc (pg s.size : Int) i) (acc ++ ((List.range (pg s.size)).drop i).map fun (i : Nat) => ⟨at_ + (i : Nat), page s i, wr⟩) := by
  have hp : pg s.size = (s.size + 127) / 128 := rfl
  intro d
  induction d with
  | zero =>
    intro i acc hi ha
    refine Ev.step (f := fun _ => some acc) (fun k => ?_) ?_
    · simp only [exe_cut.l0]; rw [if_neg (by omega)]
    · rw [List.drop_of_length_le (by simp; omega)]; simp only [List.map_nil, List.append_nil]; exact Ev.now _
  | succ d ih =>
    intro i acc hi ha
    have e1 : wrap64 ((i : Int) + 1) = ((i + 1 : Nat) : Int) := by rw [wrap64_id (by omega) (by omega)]; omega
    have e2 : wrap64 ((i : Int) * 128) = ((128 * i : Nat) : Int) := by rw [wrap64_id (by omega) (by omega)]; omega
    have e3 : wrap64 (((i + 1 : Nat) : Int) * 128) = ((128 * i + 128 : Nat) : Int) := by rw [wrap64_id (by omega) (by omega)]; omega
    have e4 : mn (s.size : Int) ((128 * i + 128 : Nat) : Int) = ((min s.size (128 * i + 128) : Nat) : Int) := by unfold mn; split <;> omega
    have e5 : wrap64 (at_ + (i : Int)) = at_ + (i : Nat) := wrap64_id (by omega) (by omega)
    have e6 : (s.extract (128 * i) (min s.size (128 * i + 128))).size = min s.size (128 * i + 128) - 128 * i := by rw [ByteArray.size_extract]; omega
    have e7 : wrap64 (128 - ((s.extract (128 * i) (min s.size (128 * i + 128))).size : Int)) = ((128 - (s.extract (128 * i) (min s.size (128 * i + 128))).size : Nat) : Int) := by rw [wrap64_id (by omega) (by omega)]; omega
    refine Ev.step (f := fun k => exe_cut.l0 k s at_ wr (acc ++ [⟨at_ + (i : Nat), page s i, wr⟩]) (pg s.size : Int) ((i + 1 : Nat) : Int)) (fun k => ?_) ?_
    · simp only [exe_cut.l0]
      simp only [e1, e2, e3, e4, e5, Int.toNat_natCast, e7]
      rw [if_pos (by omega), if_pos (by omega), if_pos (by omega), if_pos (by omega), repeat_zs _ (by omega), Option.bind_some, page_eq s i (by omega), zs_size, if_pos (by omega), if_pos (by omega)]
    · have := ih (i + 1) (acc ++ [⟨at_ + (i : Nat), page s i, wr⟩]) (by omega) (by simp [ha])
      rw [range_drop_map _ _ _ (by omega)]
      simpa using this
theorem exe_cut_eq (s : ByteArray) (at_ : Int) (wr : Bool) (hs : s.size ≤ 1000000) (ha0 : 0 ≤ at_) (ha1 : at_ ≤ 1000000) : Ev (fun k => exe_cut.f k s at_ wr) (pagesOf s at_ wr) := by
  unfold exe_cut.f
  simp only [exe_pages_eq s.size (by omega), Option.bind_some]
  have := exe_cut_loop s at_ wr hs ha0 ha1 (pg s.size) 0 [] (by omega) rfl
  simpa [pagesOf] using this
def lays (l : List Int) (b : ByteArray) (c : Nat) : List S33 :=
  pagesOf (tx l) 0 false ++ pagesOf (b ++ zs c) (pg (4 * l.length) : Int) true ++ [⟨15, zs 128, true⟩]
theorem last_page : pagesOf (zs 128) 15 true = [⟨15, zs 128, true⟩] := by
  unfold pagesOf
  rw [zs_size, show pg 128 = 1 from rfl]
  simp [page, zs_size, show pg 128 = 1 from rfl]
  rw [show zs 0 = (⟨#[]⟩ : ByteArray) from rfl, app_nil, extract_all _ _ (by rw [zs_size]; omega)]
theorem chk_bounds {l : List Int} {b : ByteArray} {c e : Int} (h : chk l b c e = 0) : 1 ≤ l.length ∧ l.length ≤ 448 ∧ 0 ≤ c ∧ c ≤ 1792 ∧ e % 4 = 0 ∧ e < 4 * (l.length : Int) ∧ pg (4 * l.length) + pg (b.size + c.toNat) ≤ 14 := by
  unfold chk at h
  split at h
  · assumption
  · omega
theorem exe_lay (l : List Int) (b : ByteArray) (c e : Int) (hb : b.size ≤ 1000000000) (he0 : 0 ≤ e) :
    Ev (fun k => exe_Lay.f k l b c e) (if chk l b c e = 0 then (lays l b c.toNat, 0) else ([], 1)) := by
  unfold exe_Lay.f
  simp only [exe_check l b c e hb he0, Option.bind_some]
  by_cases hc : chk l b c e = 0
  · have H := chk_bounds hc
    have hp := H.2.2.2.2.2.2
    have hb2 : b.size ≤ 1792 := by unfold pg at hp; omega
    rw [if_pos hc]
    refine Ev.congr (fun k => if_pos hc) ?_
    simp only [exe_text_eq l (by omega), Option.bind_some]
    refine Ev.bind (exe_cut_eq (tx l) 0 false (by rw [tx_size]; omega) (by omega) (by omega)) ?_
    obtain ⟨n, rfl⟩ := Int.eq_ofNat_of_zero_le H.2.2.1
    rw [Int.toNat_natCast] at *
    unfold exe_Lay_1.f
    simp only [repeat_zs n (by omega), Option.bind_some, zs_size]
    refine Ev.congr (fun k => if_pos (by omega)) ?_
    have p1 : pg (4 * l.length) ≤ 14 := by omega
    have hz : (b ++ zs n).size = b.size + n := by rw [ByteArray.size_append, zs_size]
    refine Ev.bind (exe_cut_eq (b ++ zs n) _ true (by rw [hz]; omega) (by omega) (by rw [pagesOf_length, tx_size]; omega)) ?_
    refine Ev.congr (fun k => if_pos (by rw [pagesOf_length, pagesOf_length, tx_size, hz]; omega)) ?_
    have h128 := repeat_zs 128 (by omega)
    rw [show ((128 : Nat) : Int) = 128 from rfl] at h128
    simp only [h128, Option.bind_some]
    refine Ev.bind (exe_cut_eq (zs 128) 15 true (by rw [zs_size]; omega) (by omega) (by omega)) ?_
    rw [last_page, pagesOf_length, tx_size]
    refine Ev.congr (fun k => if_pos (by rw [List.length_append, pagesOf_length, pagesOf_length, tx_size, hz]; simp only [List.length_cons, List.length_nil]; omega)) ?_
    exact Ev.now _
  · rw [if_neg hc]
    refine Ev.congr (fun k => if_neg hc) ?_
    have : chk l b c e = 1 := by unfold chk at *; split <;> simp_all
    rw [this]
    exact Ev.now _
end Go.Proofs.Ytgjhabeoaejcdaa.Q
end
section
namespace Go.Proofs.Ytgjhabeoaejcdaa.Q
open Go.RowKit Go.Proofs.Ytgjhabeoaejcdaa.P Go.Proofs.YtgjhabeoaejcdaaW.PrintWords Go.Proofs.YtgjhabeoaejcdaaW.PrintLast Go.Proofs.YtgjhabeoaejcdaaW.PrintMore
def le (x : Int) (n : Nat) : ByteArray := strOfNums (leNums x n)
theorem le_size (x : Int) (n : Nat) : (le x n).size = n := by rw [le, strOfNums_size, leNums_length]
theorem put_eq (x : Int) (n : Nat) (hn : n ≤ 8) : num_Put.f x n = some (le x n) := by
  unfold num_Put.f
  rw [show (min (max (n : Int) 0) 8).toNat = n by omega]; rfl
theorem u64_same {x : Int} (h0 : 0 ≤ x) (h1 : x < 18446744073709551616) : IntKind.u64.wrap x = x := by rw [u64_wrap]; omega
def headOf (l : List Int) (b : ByteArray) (c e : Int) : ByteArray := (⟨#[104, 105, 98, 120]⟩ : ByteArray) ++ le e 4 ++ le l.length 2 ++ le b.size 2 ++ le c 2
def fileOf (l : List Int) (b : ByteArray) (c e : Int) : ByteArray := headOf l b c e ++ tx l ++ b
theorem hibx_size : (⟨#[104, 105, 98, 120]⟩ : ByteArray).size = 4 := rfl
theorem head_size (l : List Int) (b : ByteArray) (c e : Int) : (headOf l b c e).size = 14 := by
  unfold headOf; simp only [ByteArray.size_append, le_size, hibx_size]
theorem file_size (l : List Int) (b : ByteArray) (c e : Int) : (fileOf l b c e).size = 14 + 4 * l.length + b.size := by
  unfold fileOf; simp only [ByteArray.size_append, head_size, tx_size]
theorem exe_bytes (l : List Int) (b : ByteArray) (c e : Int) (hb : b.size ≤ 1000000000) (he0 : 0 ≤ e) (he1 : e < 4294967296) :
    exe_Bytes.f l b c e = some (if chk l b c e = 0 then (fileOf l b c e, 0) else ((⟨#[]⟩ : ByteArray), 1)) := by
  unfold exe_Bytes.f
  rw [exe_check l b c e hb he0, Option.bind_some]
  by_cases hc : chk l b c e = 0
  · have H := chk_bounds hc
    have hp := H.2.2.2.2.2.2
    have hb2 : b.size ≤ 1792 := by unfold pg at hp; omega
    have p4 := put_eq e 4 (by omega)
    have p1 := put_eq (l.length : Int) 2 (by omega)
    have p2 := put_eq (b.size : Int) 2 (by omega)
    have p3 := put_eq c 2 (by omega)
    rw [show ((4 : Nat) : Int) = 4 from rfl] at p4
    rw [show ((2 : Nat) : Int) = 2 from rfl] at p1 p2 p3
    rw [if_pos hc, if_pos hc, u64_same he0 (by omega), p4, Option.bind_some, if_pos (by rw [le_size]; omega)]
    unfold exe_Bytes_1.f
    rw [u64_same (x := (l.length : Int)) (by omega) (by omega), u64_same (x := (b.size : Int)) (by omega) (by omega), u64_same (x := c) (by omega) (by omega), p1, p2, p3, exe_text_eq l (by omega)]
    simp only [Option.bind_some, ByteArray.size_append, le_size, hibx_size, tx_size]
    rw [if_pos (by omega), if_pos (by omega), if_pos (by omega), if_pos (by omega), if_pos (by omega)]
    rfl
  · have : chk l b c e = 1 := by unfold chk at *; split <;> simp_all
    rw [if_neg hc, if_neg hc, this]
theorem chk_one : chk [7] ⟨#[]⟩ 0 0 = 0 := by decide
theorem lays_one : lays [7] ⟨#[]⟩ 0 = [⟨0, page (tx [7]) 0, false⟩, ⟨15, zs 128, true⟩] := by
  unfold lays pagesOf
  rw [tx_size, ByteArray.size_append, zs_size]
  rfl
theorem awake_ev : Ev (fun k => hibernaclelaw12_awake.f k) true := by
  unfold hibernaclelaw12_awake.f
  simp only [Option.bind_some]
  have hb := exe_bytes [7] ⟨#[]⟩ 0 0 (by decide) (by omega) (by omega)
  have hl := exe_lay [7] ⟨#[]⟩ 0 0 (by decide) (by omega)
  rw [chk_one, if_pos rfl] at hb hl
  simp only [hb, Option.bind_some]
  refine Ev.bind hl ?_
  have e18 : ((fileOf [7] ⟨#[]⟩ 0 0).size : Int) = 18 := by rw [file_size]; rfl
  simp only [show (0 : Int).toNat = 0 from rfl, lays_one, e18]
  exact Ev.now _
end Go.Proofs.Ytgjhabeoaejcdaa.Q
end
section
set_option linter.unusedSimpArgs false
set_option linter.unusedVariables false
namespace Go.Proofs.Ytgjhabeoaejcdaa.Q
open Go.RowKit Go.Proofs.Ytgjhabeoaejcdaa.P Go.Proofs.YtgjhabeoaejcdaaW.PrintWords Go.Proofs.YtgjhabeoaejcdaaW.PrintLast Go.Proofs.YtgjhabeoaejcdaaW.PrintMore
def formB : ByteArray := ⟨#[114, 114, 114, 114, 114, 114, 114, 114, 114, 114, 114, 114, 114, 105, 105, 105, 105, 105, 108, 109, 109, 109, 109, 109, 105, 105, 105, 105, 108, 109, 110]⟩
def frm (o : Int) : Int := if o < 1 ∨ 31 < o then 0 else bt formB (o - 1)
theorem form_eq (o : Int) (h0 : 0 ≤ o) (h1 : o < 256) : isa_form.f o = some (frm o) := by
  have hw : wrap64 o = o := wrap64_id (by omega) (by omega)
  unfold isa_form.f frm
  rw [hw]
  by_cases a : o < 1
  · rw [if_pos a, if_pos (Or.inl a)]
  · rw [if_neg a]
    by_cases b : o > 31
    · rw [if_pos b, if_pos (Or.inr b)]
    · have e : (o - 1) % 256 = o - 1 := by omega
      rw [if_neg b, if_neg (show ¬(o < 1 ∨ 31 < o) by omega), e, if_pos (by omega), if_pos (by omega)]
      rfl
theorem has_eq (f : Int) : isa_has.f f = some (f != 110, f == 114 || f == 105 || f == 109, f == 114, f != 114) := by
  unfold isa_has.f
  by_cases a : f = 114
  · subst a; rfl
  · rw [if_neg a]
    by_cases b : f = 105
    · subst b; rfl
    · rw [if_neg b]
      have a' : (f == 114) = false := beq_eq_false_iff_ne.2 a
      have b' : (f == 105) = false := beq_eq_false_iff_ne.2 b
      simp [a', b']
def pl (o : Int) : Bool := decide (Lib.indexByte (⟨#[15, 16, 17, 19, 31]⟩ : ByteArray).data.toList o.toNat.toUInt8 ≥ 0)
def fit (o n : Int) : Bool := if pl o then decide (0 ≤ n ∧ n ≤ 65535) else decide (-32768 ≤ n ∧ n ≤ 32767)
theorem fits_eq (o n : Int) : isa_fits.f o n = some (fit o n) := by
  unfold isa_fits.f fit pl strings_IndexByte.f
  simp only [Option.bind_some, decide_eq_true_eq]
  by_cases a : Lib.indexByte (⟨#[15, 16, 17, 19, 31]⟩ : ByteArray).data.toList o.toNat.toUInt8 ≥ 0
  · rw [if_pos a, if_pos a]
    by_cases b : n ≥ 0
    · rw [if_pos b]; simp [show 0 ≤ n from b]
    · rw [if_neg b]; simp [show ¬ 0 ≤ n from b]
  · rw [if_neg a, if_neg a]
    by_cases b : n ≥ -32768
    · rw [if_pos b]; simp [show -32768 ≤ n from b]
    · rw [if_neg b]; simp [show ¬ -32768 ≤ n from b]
def bad (f a b c n : Int) : Bool := decide (a > 15) || decide (b > 15) || decide (c > 15) || (f == 110 && a != 0) || (!(f == 114 || f == 105 || f == 109) && b != 0) || (f != 114 && c != 0) || (f == 114 && n != 0)
theorem enc_eq (k : Nat) (o a b c n : Int) (h0 : 0 ≤ o) (h1 : o < 256) (hf : frm o ≠ 0) : isa_Enc.f k o a b c n = isa_Enc.j0 k (frm o != 114) (bad (frm o) a b c n) o a b c n := by
  unfold isa_Enc.f
  rw [form_eq o h0 h1]
  simp only [Option.bind_some, has_eq, if_neg hf]
  generalize frm o = f
  unfold bad
  have e1 : (f != 110) = !(f == 110) := rfl
  have e2 : (f != 114) = !(f == 114) := rfl
  rw [e1, e2]
  generalize (f == 110) = x
  generalize (f == 114) = y
  generalize (f == 105) = z
  generalize (f == 109) = t
  by_cases p : a > 15
  · rw [if_pos p]; simp [p]
  by_cases q : b > 15
  · rw [if_neg p, if_pos q]; simp [q]
  by_cases r : c > 15
  · rw [if_neg p, if_neg q, if_pos r]; simp [r]
  rw [if_neg p, if_neg q, if_neg r]
  have e3 : (a != 0) = !(decide (a = 0)) := by by_cases h : a = 0 <;> simp [h]
  have e4 : (b != 0) = !(decide (b = 0)) := by by_cases h : b = 0 <;> simp [h]
  have e5 : (c != 0) = !(decide (c = 0)) := by by_cases h : c = 0 <;> simp [h]
  rw [e3, e4, e5, decide_eq_false p, decide_eq_false q, decide_eq_false r]
  generalize (n != 0) = s
  by_cases ha : a = 0 <;> by_cases hb : b = 0 <;> by_cases hc : c = 0 <;> cases x <;> cases y <;> cases z <;> cases t <;> simp [ha, hb, hc]
end Go.Proofs.Ytgjhabeoaejcdaa.Q
end
section
set_option linter.unusedSimpArgs false
set_option linter.unusedVariables false
namespace Go.Proofs.Ytgjhabeoaejcdaa.Q
open Go.RowKit Go.Proofs.Ytgjhabeoaejcdaa.P Go.Proofs.YtgjhabeoaejcdaaW.PrintWords Go.Proofs.YtgjhabeoaejcdaaW.PrintLast Go.Proofs.YtgjhabeoaejcdaaW.PrintMore
theorem u32_nat {n : Int} (h0 : 0 ≤ n) (h1 : n < 2 ^ 32) : IntKind.u32.wrap n = n := by
  rw [IntKind.wrap_u32]; omega
theorem u32_or (i : Nat) {x y : Int} (hx0 : 0 ≤ x) (hx : x % 2 ^ i = 0) (hx1 : x < 2 ^ 32) (hy0 : 0 ≤ y) (hy : y < 2 ^ i) (hy1 : y < 2 ^ 32) : bits .or .u32 x y = x + y :=
  bits_join .u32 32 (by decide) (fun _ => u32_nat) i x y hx0 hx hx1 hy0 hy hy1
theorem u32_and15 {x : Int} (h0 : 0 ≤ x) (h1 : x < 2 ^ 32) : bits .and .u32 x 15 = x % 16 :=
  bits_mask .u32 32 (by decide) (fun _ => u32_nat) 4 (by decide) x h0 h1
theorem u16_mod (n : Int) : IntKind.u16.wrap n = n % 65536 := by simp [IntKind.wrap, IntKind.bits, IntKind.signed]
theorem i16_mod (n : Int) : IntKind.i16.wrap n = (n + 32768) % 65536 - 32768 := by
  simp [IntKind.wrap, IntKind.bits, IntKind.signed]
  split <;> omega
theorem word3 {o a b c : Int} (o0 : 0 ≤ o) (o1 : o ≤ 31) (a0 : 0 ≤ a) (a1 : a ≤ 15) (b0 : 0 ≤ b) (b1 : b ≤ 15) (c0 : 0 ≤ c) (c1 : c ≤ 15) :
    Go.bits .or .u32 (Go.bits .or .u32 (Go.bits .or .u32 (((IntKind.u32.wrap o) * 67108864) % 4294967296) (((IntKind.u32.wrap a) * 4194304) % 4294967296)) (((IntKind.u32.wrap b) * 262144) % 4294967296)) (((IntKind.u32.wrap c) * 16384) % 4294967296) = o * 67108864 + a * 4194304 + b * 262144 + c * 16384 := by
  rw [u32_nat o0 (by omega), u32_nat a0 (by omega), u32_nat b0 (by omega), u32_nat c0 (by omega)]
  rw [show (o * 67108864) % 4294967296 = o * 67108864 by omega, show (a * 4194304) % 4294967296 = a * 4194304 by omega, show (b * 262144) % 4294967296 = b * 262144 by omega, show (c * 16384) % 4294967296 = c * 16384 by omega]
  rw [u32_or 26 (x := o * 67108864) (y := a * 4194304) (by omega) (by omega) (by omega) (by omega) (by omega) (by omega)]
  rw [u32_or 22 (x := o * 67108864 + a * 4194304) (y := b * 262144) (by omega) (by omega) (by omega) (by omega) (by omega) (by omega)]
  rw [u32_or 18 (x := o * 67108864 + a * 4194304 + b * 262144) (y := c * 16384) (by omega) (by omega) (by omega) (by omega) (by omega) (by omega)]
def wrd (o a b c n : Int) : Int := o * 67108864 + a * 4194304 + b * 262144 + (if frm o = 114 then c * 16384 else n % 65536)
def encOf (o a b c n : Int) : Int × Int :=
  if frm o = 0 then (0, 16) else if bad (frm o) a b c n = true then (0, 1) else if (frm o != 114 && !fit o n) = true then (0, 2) else (wrd o a b c n, 0)
theorem frm_ne {o : Int} (h : frm o ≠ 0) : 1 ≤ o ∧ o ≤ 31 := by
  unfold frm at h
  split at h
  · exact absurd rfl h
  · omega
theorem bad_no {f a b c n : Int} (h : ¬ bad f a b c n = true) : a ≤ 15 ∧ b ≤ 15 ∧ c ≤ 15 ∧ (f = 110 → a = 0) ∧ (¬(f = 114 ∨ f = 105 ∨ f = 109) → b = 0) ∧ (f ≠ 114 → c = 0) ∧ (f = 114 → n = 0) := by
  unfold bad at h
  simp only [Bool.or_eq_true, Bool.and_eq_true, decide_eq_true_eq, beq_iff_eq, bne_iff_ne, Bool.not_eq_true', ne_eq, not_or, not_and, Bool.or_eq_false_iff, beq_eq_false_iff_ne, Decidable.not_not] at h
  obtain ⟨⟨⟨⟨⟨⟨h1, h2⟩, h3⟩, h4⟩, h5⟩, h6⟩, h7⟩ := h
  refine ⟨by omega, by omega, by omega, h4, fun g => ?_, h6, h7⟩
  exact h5 ⟨⟨fun x => g (Or.inl x), fun x => g (Or.inr (Or.inl x))⟩, fun x => g (Or.inr (Or.inr x))⟩
theorem enc_ev (o a b c n : Int) (o0 : 0 ≤ o) (o1 : o < 256) (a0 : 0 ≤ a) (b0 : 0 ≤ b) (c0 : 0 ≤ c) : Ev (fun k => isa_Enc.f k o a b c n) (encOf o a b c n) := by
  unfold encOf
  by_cases hf : frm o = 0
  · rw [if_pos hf]
    refine Ev.congr (fun k => ?_) (Ev.now _)
    unfold isa_Enc.f
    rw [form_eq o o0 o1, Option.bind_some, if_pos hf]
  · rw [if_neg hf]
    refine Ev.congr (fun k => enc_eq k o a b c n o0 o1 hf) ?_
    obtain ⟨g0, g1⟩ := frm_ne hf
    by_cases hb : bad (frm o) a b c n = true
    · rw [hb, if_pos rfl]
      exact Ev.step (f := fun _ => some (0, 1)) (fun k => by simp only [isa_Enc.j0]; rw [if_pos trivial]) (Ev.now _)
    · rw [if_neg hb]
      obtain ⟨a1, b1, c1, _, _, h6, h7⟩ := bad_no hb
      have hb' : bad (frm o) a b c n = false := by simpa using hb
      rw [hb']
      have W := word3 o0 g1 a0 a1 b0 b1 c0 c1
      by_cases hr : frm o = 114
      · have e : (frm o != 114) = false := by simp [hr]
        rw [e]
        refine Ev.step (f := fun k => isa_Enc.j1 k false false o a b c n) (fun k => by simp only [isa_Enc.j0]; rw [if_neg (by simp), if_neg (by simp)]) ?_
        refine Ev.step (f := fun _ => some (wrd o a b c n, 0)) (fun k => ?_) (by simp only [Bool.false_and]; rw [if_neg (by simp)]; exact Ev.now _)
        simp only [isa_Enc.j1]
        rw [if_neg (by simp), if_neg (by simp), W]
        unfold wrd
        rw [if_pos hr]
      · have e : (frm o != 114) = true := by simp [hr]
        rw [e]
        refine Ev.step (f := fun k => isa_Enc.j1 k true (!fit o n) o a b c n) (fun k => by simp only [isa_Enc.j0, fits_eq, Option.bind_some]; rw [if_neg (by simp), if_pos trivial]) ?_
        have c2 := h6 hr
        subst c2
        by_cases ft : fit o n = true
        · rw [ft]
          refine Ev.step (f := fun _ => some (wrd o a b 0 n, 0)) (fun k => ?_) (by rw [if_neg (by simp)]; exact Ev.now _)
          simp only [isa_Enc.j1]
          rw [if_neg (by simp), if_pos trivial, W]
          unfold wrd
          rw [if_neg hr, u16_mod, u32_nat (n := n % 65536) (by omega) (by omega), u32_or 16 (x := o * 67108864 + a * 4194304 + b * 262144 + 0 * 16384) (y := n % 65536) (by omega) (by omega) (by omega) (by omega) (by omega) (by omega)]
          simp
        · have ft' : fit o n = false := by simpa using ft
          rw [ft']
          refine Ev.step (f := fun _ => some (0, 2)) (fun k => ?_) (by rw [if_pos (by simp)]; exact Ev.now _)
          simp only [isa_Enc.j1]
          rw [if_pos (by simp)]
theorem enc_ok {o a b c n w : Int} (h : encOf o a b c n = (w, 0)) : frm o ≠ 0 ∧ ¬ bad (frm o) a b c n = true ∧ (frm o ≠ 114 → fit o n = true) ∧ w = wrd o a b c n := by
  unfold encOf at h
  by_cases hf : frm o = 0
  · rw [if_pos hf] at h; simp at h
  rw [if_neg hf] at h
  by_cases hb : bad (frm o) a b c n = true
  · rw [if_pos hb] at h; simp at h
  rw [if_neg hb] at h
  by_cases hg : (frm o != 114 && !fit o n) = true
  · rw [if_pos hg] at h; simp at h
  rw [if_neg hg] at h
  simp only [Prod.mk.injEq, and_true] at h
  refine ⟨hf, hb, fun e => ?_, h.symm⟩
  cases hx : fit o n with
  | true => rfl
  | false => exact absurd (by simp [e, hx]) hg
theorem dec_ev (o a b c n w : Int) (o0 : 0 ≤ o) (o1 : o < 256) (a0 : 0 ≤ a) (b0 : 0 ≤ b) (c0 : 0 ≤ c) (h : encOf o a b c n = (w, 0)) :
    0 ≤ w ∧ w < 4294967296 ∧ Ev (fun k => isa_Dec.f k w) (o, a, b, c, n, true) := by
  obtain ⟨hf, hb, hn, hw⟩ := enc_ok h
  obtain ⟨g0, g1⟩ := frm_ne hf
  obtain ⟨a1, b1, c1, _, _, h6, h7⟩ := bad_no hb
  have he := enc_ev o a b c n o0 o1 a0 b0 c0
  rw [h] at he
  have hw0 : 0 ≤ w ∧ w < 4294967296 ∧ w / 67108864 = o ∧ (w / 4194304) % 16 = a ∧ (w / 262144) % 16 = b := by
    unfold wrd at hw
    split at hw <;> omega
  obtain ⟨w0, w1, x1, x2, x3⟩ := hw0
  refine ⟨w0, w1, ?_⟩
  have y1 : (w / 67108864) % 256 = o := by omega
  have y2 : (Go.bits .and .u32 (w / 4194304) 15) % 256 = a := by rw [u32_and15 (by omega) (by omega)]; omega
  have y3 : (Go.bits .and .u32 (w / 262144) 15) % 256 = b := by rw [u32_and15 (by omega) (by omega)]; omega
  unfold isa_Dec.f
  simp only [y1, y2, y3, form_eq o o0 o1, Option.bind_some, has_eq]
  by_cases hr : frm o = 114
  · have y4 : (Go.bits .and .u32 (w / 16384) 15) % 256 = c := by
      rw [u32_and15 (by omega) (by omega)]
      unfold wrd at hw
      rw [if_pos hr] at hw
      omega
    have n0 := h7 hr
    subst n0
    simp only [y4]
    refine Ev.congr (fun k => if_pos (by simp [hr])) (Ev.bind he ?_)
    refine Ev.congr (fun k => if_pos rfl) (Ev.congr (fun k => if_pos rfl) (Ev.now _))
  · have z0 := h6 hr
    subst z0
    have ft := hn hr
    unfold fit pl at ft
    refine Ev.congr (fun k => if_neg (by simp [hr])) (Ev.congr (fun k => if_pos (by simp [hr])) ?_)
    unfold strings_IndexByte.f
    simp only [Option.bind_some]
    unfold wrd at hw
    rw [if_neg hr] at hw
    by_cases hp : Lib.indexByte (⟨#[15, 16, 17, 19, 31]⟩ : ByteArray).data.toList o.toNat.toUInt8 ≥ 0
    · rw [decide_eq_true hp, if_pos rfl, decide_eq_true_eq] at ft
      have y5 : wrap32 (IntKind.u16.wrap w) = n := by rw [u16_mod]; unfold wrap32; omega
      simp only [y5]
      refine Ev.congr (fun k => if_pos hp) (Ev.bind he ?_)
      refine Ev.congr (fun k => if_pos rfl) (Ev.congr (fun k => if_pos rfl) (Ev.now _))
    · rw [decide_eq_false hp, if_neg (by simp), decide_eq_true_eq] at ft
      have y5 : wrap32 (IntKind.i16.wrap w) = n := by rw [i16_mod]; unfold wrap32; omega
      simp only [y5]
      refine Ev.congr (fun k => if_neg hp) (Ev.bind he ?_)
      refine Ev.congr (fun k => if_pos rfl) (Ev.congr (fun k => if_pos rfl) (Ev.now _))
end Go.Proofs.Ytgjhabeoaejcdaa.Q
end
section
namespace Go.Proofs.Ytgjhabeoaejcdaa.Q
open Go.RowKit Go.Proofs.Ytgjhabeoaejcdaa.P Go.Proofs.YtgjhabeoaejcdaaW.PrintWords Go.Proofs.YtgjhabeoaejcdaaW.PrintLast Go.Proofs.YtgjhabeoaejcdaaW.PrintMore
def ofB : List Int → Int
  | [] => 0
  | x :: xs => x + 256 * ofB xs
theorem bytesOf_range (s : ByteArray) : ∀ x ∈ bytesOf s, 0 ≤ x ∧ x < 256 := by
  intro x hx
  unfold bytesOf at hx
  obtain ⟨b, _, rfl⟩ := List.mem_map.mp hx
  have := b.toNat_lt
  omega
theorem bytesOf_str (xs : List Int) (h : ∀ x ∈ xs, 0 ≤ x ∧ x < 256) : bytesOf (strOfNums xs) = xs := by
  unfold bytesOf
  rw [strOfNums_data, List.map_map]
  conv => rhs; rw [← List.map_id xs]
  apply List.map_congr_left
  intro x hx
  have := h x hx
  simp only [Function.comp, id]
  rw [UInt8.toNat_ofNat']
  omega
theorem bt_getD (s : ByteArray) (i : Nat) : bt s (i : Int) = (bytesOf s).getD i 0 := by
  rw [← rd_bytesOf]; unfold rd; rw [Int.toNat_natCast]
theorem byte_at (s : ByteArray) (i : Nat) (h : i < s.size) : 0 ≤ bt s (i : Int) ∧ bt s (i : Int) < 256 := by
  have := bt_range s (i : Int); omega
theorem bits_up (acc b : Int) (i : Nat) (hi : i ≤ 7) (ha0 : 0 ≤ acc) (ha : acc < 256 ^ i) (hb0 : 0 ≤ b) (hb : b < 256) :
    bits .or .u64 acc (shl .u64 (IntKind.u64.wrap b) (8 * (i : Int))) = acc + b * 256 ^ i := by
  have hw : ∀ n : Int, 0 ≤ n → n < 2 ^ 64 → IntKind.u64.wrap n = n := fun n h0 h1 => by rw [u64_wrap]; omega
  have e1 : (2 : Int) ^ min (8 * (i : Int)).toNat IntKind.u64.bits = 256 ^ i := by
    have : min (8 * (i : Int)).toNat IntKind.u64.bits = 8 * i := by
      have : IntKind.u64.bits = 64 := rfl
      omega
    rw [this, two_pow8]
  have hp : (0 : Int) < 256 ^ i := Int.pow_pos (by omega)
  have hm : (256 : Int) ^ i * 256 ≤ 18446744073709551616 := by
    have : (256 : Int) ^ i ≤ 72057594037927936 := by
      obtain rfl | rfl | rfl | rfl | rfl | rfl | rfl | rfl : i = 0 ∨ i = 1 ∨ i = 2 ∨ i = 3 ∨ i = 4 ∨ i = 5 ∨ i = 6 ∨ i = 7 := by omega
      all_goals decide
    omega
  have h2 : b * 256 ^ i ≤ 255 * 256 ^ i := Int.mul_le_mul_of_nonneg_right (by omega) (by omega)
  have h3 : 0 ≤ b * 256 ^ i := Int.mul_nonneg hb0 (by omega)
  have h4 : b * 256 ^ i < 18446744073709551616 := by omega
  have h5 : acc < 18446744073709551616 := by omega
  unfold shl
  rw [e1, u64_same (x := b) hb0 (by omega), u64_same h3 h4]
  obtain ⟨x, hx⟩ := Int.eq_ofNat_of_zero_le h3
  obtain ⟨a, rfl⟩ := Int.eq_ofNat_of_zero_le ha0
  have hj := bits_join .u64 64 (by decide) hw (8 * i) (b * 256 ^ i) a h3 (by rw [two_pow8]; exact Int.mul_emod_left b (256 ^ i)) (by omega) (by omega) (by rw [two_pow8]; exact ha) (by omega)
  rw [hx] at hj ⊢
  have b1 := (bits_nat .u64 64 (by decide) hw a x (by omega) (by omega)).2
  have b2 := (bits_nat .u64 64 (by decide) hw x a (by omega) (by omega)).2
  rw [b1, Nat.or_comm, ← b2, hj]
  omega
theorem ofB_range (xs : List Int) (h : ∀ x ∈ xs, 0 ≤ x ∧ x < 256) : 0 ≤ ofB xs ∧ ofB xs < 256 ^ xs.length := by
  induction xs with
  | nil => simp [ofB]
  | cons x xs ih =>
    have h1 := ih fun y hy => h y (List.mem_cons_of_mem _ hy)
    have h2 := h x (List.mem_cons_self ..)
    simp only [ofB, List.length_cons, Int.pow_succ]
    omega
theorem ofB_append (a b : List Int) : ofB (a ++ b) = ofB a + 256 ^ a.length * ofB b := by
  induction a with
  | nil => simp [ofB]
  | cons x a ih => simp only [List.cons_append, ofB, ih, List.length_cons, Int.pow_succ]; rw [Int.mul_add, ← Int.mul_assoc, Int.mul_comm (256 ^ a.length) 256]; omega
theorem num_get_loop (s : ByteArray) (hs : s.size ≤ 8) : ∀ (d i : Nat), i + d = s.size →
    Ev (fun k => num_Get.l0 k s (ofB ((bytesOf s).take i)) (s.size : Int) i) (ofB (bytesOf s)) := by
  intro d
  induction d with
  | zero =>
    intro i hi
    refine Ev.step (f := fun _ => some (ofB (bytesOf s))) (fun k => ?_) (Ev.now _)
    simp only [num_Get.l0]; rw [if_neg (by omega), List.take_of_length_le (by rw [bytesOf_length]; omega)]
  | succ d ih =>
    intro i hi
    have e1 : wrap64 ((i : Int) + 1) = ((i + 1 : Nat) : Int) := by rw [wrap64_id (by omega) (by omega)]; omega
    have e8 : wrap64 (8 * (i : Int)) = 8 * (i : Int) := wrap64_id (by omega) (by omega)
    have hl : ((bytesOf s).take i).length = i := by rw [List.length_take, bytesOf_length]; omega
    have hr := ofB_range ((bytesOf s).take i) fun x hx => bytesOf_range s x (List.mem_of_mem_take hx)
    rw [hl] at hr
    have hb := byte_at s i (by omega)
    refine Ev.step (f := fun k => num_Get.l0 k s (ofB ((bytesOf s).take (i + 1))) (s.size : Int) ((i + 1 : Nat) : Int)) (fun k => ?_) (ih (i + 1) (by omega))
    simp only [num_Get.l0, e1, e8]
    rw [if_pos (by omega), if_pos (by omega), if_pos (by omega), if_pos (by omega), bits_up _ _ i (by omega) hr.1 hr.2 hb.1 hb.2]
    congr 1
    rw [List.take_add_one, ofB_append, hl, bt_getD, List.getD_eq_getElem?_getD]
    rw [List.getElem?_eq_getElem (by rw [bytesOf_length]; omega)]
    simp only [Option.getD_some, Option.toList_some, ofB]
    rw [Int.mul_zero, Int.add_zero, Int.mul_comm]
theorem num_get (s : ByteArray) (hs : s.size ≤ 8) : Ev (fun k => num_Get.f k s) (ofB (bytesOf s)) := by
  have := num_get_loop s hs s.size 0 (by omega)
  unfold num_Get.f
  rw [show mn (s.size : Int) 8 = (s.size : Int) by unfold mn; split <;> omega]
  exact this
theorem bytesOf_le (x : Int) (n : Nat) : bytesOf (le x n) = leNums x n := bytesOf_str _ (leNums_range n x)
theorem ofB_le4 (x : Int) : ofB (leNums x 4) = x % 4294967296 := by simp only [leNums, ofB]; omega
theorem extract_left (a c : ByteArray) (i j : Nat) (h : j ≤ a.size) : (a ++ c).extract i j = a.extract i j := by
  rw [ByteArray.extract_append, extract_none c _ _ (by omega), app_nil]
theorem extract_right (a c : ByteArray) (i j : Nat) : (a ++ c).extract (a.size + i) (a.size + j) = c.extract i j := by
  rw [ByteArray.extract_append, extract_none a _ _ (by omega), nil_app, Nat.add_sub_cancel_left, Nat.add_sub_cancel_left]
theorem extract_mid (a b c : ByteArray) : (a ++ (b ++ c)).extract a.size (a.size + b.size) = b := by
  have := extract_right a (b ++ c) 0 b.size
  rw [Nat.add_zero] at this
  rw [this, extract_left _ _ _ _ (Nat.le_refl _), extract_all _ _ (Nat.le_refl _)]
theorem tx_append (a b : List Int) : tx (a ++ b) = tx a ++ tx b := by unfold tx; rw [textNums_append, str_append]
theorem tx_word (l : List Int) (i : Nat) (h : i < l.length) (r : ByteArray) : (tx l ++ r).extract (4 * i) (4 * i + 4) = le (l.getD i 0) 4 := by
  have e : tx l ++ r = tx (l.take i) ++ (le (l.getD i 0) 4 ++ (tx (l.drop (i + 1)) ++ r)) := by
    conv => lhs; rw [← List.take_append_drop i l, drop_getD l i h]
    rw [tx_append, show tx (l.getD i 0 :: l.drop (i + 1)) = le (l.getD i 0) 4 ++ tx (l.drop (i + 1)) from by unfold tx le; rw [← str_append]; rfl]
    simp only [app_assoc]
  have h1 : (tx (l.take i)).size = 4 * i := by rw [tx_size, List.length_take]; omega
  have := extract_mid (tx (l.take i)) (le (l.getD i 0) 4) (tx (l.drop (i + 1)) ++ r)
  rw [h1, le_size] at this
  rw [e, this]
end Go.Proofs.Ytgjhabeoaejcdaa.Q
end
section
set_option linter.unusedSimpArgs false
set_option linter.unusedVariables false
namespace Go.Proofs.Ytgjhabeoaejcdaa.Q
open Go.RowKit Go.Proofs.Ytgjhabeoaejcdaa.P Go.Proofs.YtgjhabeoaejcdaaW.PrintWords Go.Proofs.YtgjhabeoaejcdaaW.PrintLast Go.Proofs.YtgjhabeoaejcdaaW.PrintMore
def insOk (x : S49) : Prop := (0 ≤ x.f0 ∧ x.f0 < 256) ∧ (0 ≤ x.f1 ∧ x.f1 < 256) ∧ (0 ≤ x.f2 ∧ x.f2 < 256) ∧ (0 ≤ x.f3 ∧ x.f3 < 256)
def en (x : S49) : Int × Int := encOf x.f0 x.f1 x.f2 x.f3 x.f4
theorem rd49_nat (l : List S49) (i : Nat) : rd_T49 l (i : Int) = l.getD i z49 := by unfold rd_T49; rw [Int.toNat_natCast]
theorem getD_mem (l : List S49) (i : Nat) (h : i < l.length) : l.getD i z49 ∈ l := by
  rw [List.getD_eq_getElem?_getD, List.getElem?_eq_getElem h]
  exact List.getElem_mem _
theorem lays_words (W : List Int) (h0 : 1 ≤ W.length) (h1 : W.length ≤ 32) : chk W ⟨#[]⟩ 0 0 = 0 ∧ lays W ⟨#[]⟩ 0 = [⟨0, page (tx W) 0, false⟩, ⟨15, zs 128, true⟩] ∧ page (tx W) 0 = tx W ++ zs (128 - 4 * W.length) := by
  have hp : pg (4 * W.length) = 1 := by unfold pg; omega
  refine ⟨?_, ?_, ?_⟩
  · unfold chk
    rw [if_pos]
    refine ⟨h0, by omega, by omega, by omega, by omega, by omega, ?_⟩
    rw [hp]
    decide
  · unfold lays pagesOf
    rw [tx_size, ByteArray.size_append, zs_size, hp]
    rfl
  · unfold page
    rw [tx_size, hp]
    exact extract_all _ _ (by rw [ByteArray.size_append, tx_size, zs_size]; omega)
theorem back_loop (l : List S49) (hl : l.length ≤ 32) (ok : ∀ x ∈ l, insOk x) (he : ∀ x ∈ l, (en x).2 = 0) (L : List S33) (hL : L = [⟨0, tx (l.map fun x => (en x).1) ++ zs (128 - 4 * l.length), false⟩, ⟨15, zs 128, true⟩]) :
    ∀ (d i : Nat), i + d = l.length → Ev (fun k => hibernaclelaw12_ExeWords.l1 k l L i) true := by
  intro d
  induction d with
  | zero =>
    intro i hi
    exact Ev.step (f := fun k => (hibernaclelaw12_awake.f k).bind fun t => some t) (fun k => by simp only [hibernaclelaw12_ExeWords.l1]; rw [if_neg (by omega)]) (Ev.bind awake_ev (Ev.now _))
  | succ d ih =>
    intro i hi
    have e1 : wrap64 ((i : Int) + 1) = ((i + 1 : Nat) : Int) := by rw [wrap64_id (by omega) (by omega)]; omega
    have e4 : wrap64 (4 * (i : Int)) = ((4 * i : Nat) : Int) := by rw [wrap64_id (by omega) (by omega)]; omega
    have e5 : wrap64 (((4 * i : Nat) : Int) + 4) = ((4 * i + 4 : Nat) : Int) := by rw [wrap64_id (by omega) (by omega)]; omega
    have hm := getD_mem l i (by omega)
    have hx := ok _ hm
    have hz := he _ hm
    generalize hX : l.getD i z49 = x at hm hx hz
    obtain ⟨⟨o0, o1⟩, ⟨a0, a1⟩, ⟨b0, b1⟩, ⟨c0, c1⟩⟩ := hx
    obtain ⟨w0, w1, hd⟩ := dec_ev x.f0 x.f1 x.f2 x.f3 x.f4 (en x).1 o0 o1 a0 b0 c0 (by rw [← hz]; rfl)
    have hw : (l.map fun x => (en x).1).getD i 0 = (en x).1 := by
      rw [List.getD_eq_getElem?_getD, List.getElem?_map, List.getElem?_eq_getElem (by omega)]
      rw [List.getD_eq_getElem?_getD, List.getElem?_eq_getElem (by omega)] at hX
      simp only [Option.getD_some] at hX
      simp [hX]
    have hg := num_get (le (en x).1 4) (by rw [le_size]; omega)
    rw [bytesOf_le, ofB_le4, Int.emod_eq_of_lt w0 w1] at hg
    have ht : (tx (l.map fun x => (en x).1) ++ zs (128 - 4 * l.length)).extract (4 * i) (4 * i + 4) = le (en x).1 4 := by
      rw [tx_word _ i (by rw [List.length_map]; omega), hw]
    have hs : (tx (l.map fun x => (en x).1) ++ zs (128 - 4 * l.length)).size = 128 := by rw [ByteArray.size_append, tx_size, zs_size, List.length_map]; omega
    have q1 : (rd_T33 L 0).f1 = tx (l.map fun x => (en x).1) ++ zs (128 - 4 * l.length) := by rw [hL]; rfl
    have q2 : L.length = 2 := by rw [hL]; rfl
    refine Ev.step (f := fun k => (num_Get.f k (le (en x).1 4)).bind fun t => ((isa_Dec.f k (t % 4294967296)).bind fun bt363 => (if bt363.2.2.2.2.2 = true then (if 0 ≤ (i : Int) then (if (!(bt363.1 == x.f0) || (!(bt363.2.1 == x.f1) || (!(bt363.2.2.1 == x.f2) || (!(bt363.2.2.2.1 == x.f3) || (!(bt363.2.2.2.2.1 == x.f4)))))) = true then (some false) else (hibernaclelaw12_ExeWords.l1 k l L ((i + 1 : Nat) : Int))) else (none)) else (some false)))) (fun k => ?_) ?_
    · simp only [hibernaclelaw12_ExeWords.l1, e4, e5, e1, q1, q2, Int.toNat_natCast, ht, hs, rd49_nat, hX]
      rw [if_pos (by omega), if_pos (by omega), if_pos (by omega), if_pos (by omega), if_pos (by omega)]
    · refine Ev.bind hg ?_
      rw [Int.emod_eq_of_lt w0 w1]
      refine Ev.bind hd ?_
      refine Ev.congr (fun k => if_pos rfl) (Ev.congr (fun k => if_pos (by omega)) (Ev.congr (fun k => if_neg (by simp)) (ih (i + 1) (by omega))))
theorem words_in (l : List S49) (hl : l.length ≤ 32) (h1 : 1 ≤ l.length) (ok : ∀ x ∈ l, insOk x) : ∀ (d i : Nat), i + d = l.length → (∀ x ∈ l.take i, (en x).2 = 0) →
    Ev (fun k => hibernaclelaw12_ExeWords.l0 k l i ((l.take i).map fun x => (en x).1) (⟨#[]⟩ : ByteArray) 0 0) true := by
  intro d
  induction d with
  | zero =>
    intro i hi he
    rw [List.take_of_length_le (by omega)] at he ⊢
    obtain ⟨g1, g2, g3⟩ := lays_words (l.map fun x => (en x).1) (by rw [List.length_map]; omega) (by rw [List.length_map]; omega)
    have hy := exe_lay (l.map fun x => (en x).1) ⟨#[]⟩ 0 0 (by decide) (by omega)
    rw [if_pos g1, show (0 : Int).toNat = 0 from rfl, g2, g3, List.length_map] at hy
    have hs : (tx (l.map fun x => (en x).1) ++ zs (128 - 4 * l.length)).size = 128 := by rw [ByteArray.size_append, tx_size, zs_size, List.length_map]; omega
    generalize hL : ([⟨0, tx (l.map fun x => (en x).1) ++ zs (128 - 4 * l.length), false⟩, ⟨15, zs 128, true⟩] : List S33) = L at hy
    have q1 : (rd_T33 L 0).f1 = tx (l.map fun x => (en x).1) ++ zs (128 - 4 * l.length) := by rw [← hL]; rfl
    have q2 : L.length = 2 := by rw [← hL]; rfl
    refine Ev.step (f := fun k => (exe_Lay.f k (l.map fun x => (en x).1) ⟨#[]⟩ 0 0).bind fun bt355 => (if bt355.2 = 0 then (if (bt355.1.length : Int) = 2 then (if 0 < (bt355.1.length : Int) then (hibernaclelaw12_ExeWords.j2 k l bt355.1 ((((rd_T33 bt355.1 0).f1).size : Int) != 128)) else (none)) else (hibernaclelaw12_ExeWords.j2 k l bt355.1 true)) else (hibernaclelaw12_ExeWords.j2 k l bt355.1 true))) (fun k => ?_) ?_
    · simp only [hibernaclelaw12_ExeWords.l0]
      rw [if_neg (by omega)]
    · refine Ev.bind hy ?_
      refine Ev.congr (fun k => if_pos rfl) (Ev.congr (fun k => if_pos (by simp only [q2]; rfl)) (Ev.congr (fun k => if_pos (by simp only [q2]; omega)) ?_))
      simp only [q1, hs]
      exact Ev.step (f := fun k => hibernaclelaw12_ExeWords.l1 k l L ((0 : Nat) : Int)) (fun k => by simp only [hibernaclelaw12_ExeWords.j2]; rw [if_neg (by simp)]; rfl) (back_loop l hl ok he L hL.symm l.length 0 (by omega))
  | succ d ih =>
    intro i hi he
    have e1 : wrap64 ((i : Int) + 1) = ((i + 1 : Nat) : Int) := by rw [wrap64_id (by omega) (by omega)]; omega
    have hm := getD_mem l i (by omega)
    have hx := ok _ hm
    have ht : l.take (i + 1) = l.take i ++ [l.getD i z49] := by
      rw [List.take_add_one, List.getElem?_eq_getElem (by omega), List.getD_eq_getElem?_getD, List.getElem?_eq_getElem (by omega)]
      rfl
    generalize hX : l.getD i z49 = x at hm hx ht
    obtain ⟨⟨o0, o1⟩, ⟨a0, a1⟩, ⟨b0, b1⟩, ⟨c0, c1⟩⟩ := hx
    have hen := enc_ev x.f0 x.f1 x.f2 x.f3 x.f4 o0 o1 a0 b0 c0
    refine Ev.step (f := fun k => (isa_Enc.f k x.f0 x.f1 x.f2 x.f3 x.f4).bind fun bt349 => (if bt349.2 = 0 then (hibernaclelaw12_ExeWords.l0 k l ((i + 1 : Nat) : Int) (((l.take i).map fun x => (en x).1) ++ [bt349.1]) (⟨#[]⟩ : ByteArray) 0 0) else ((hibernaclelaw12_awake.f k).bind fun t354 => (some t354)))) (fun k => ?_) ?_
    · have hlen : ((l.take i).map fun x => (en x).1).length < 35184372088832 := by rw [List.length_map, List.length_take]; omega
      simp only [hibernaclelaw12_ExeWords.l0, rd49_nat, hX, e1]
      rw [if_pos (by omega), if_pos (by omega)]
      simp only [if_pos hlen]
    · refine Ev.bind hen ?_
      by_cases hz : (en x).2 = 0
      · refine Ev.congr (fun k => if_pos hz) ?_
        have := ih (i + 1) (by omega) (fun y hy => by
          rw [ht, List.mem_append, List.mem_singleton] at hy
          rcases hy with hy | rfl
          · exact he y hy
          · exact hz)
        rw [ht, List.map_append] at this
        exact this
      · exact Ev.congr (fun k => if_neg hz) (Ev.bind awake_ev (Ev.now _))
theorem ExeWords_ev (l : List S49) (ok : ∀ x ∈ l, insOk x) : Ev (fun k => hibernaclelaw12_ExeWords.f k l) true := by
  have off : Ev (fun k => hibernaclelaw12_ExeWords.j0 k l true) true :=
    Ev.step (f := fun k => (hibernaclelaw12_awake.f k).bind fun t => some t) (fun k => by simp only [hibernaclelaw12_ExeWords.j0]; rw [if_pos trivial]) (Ev.bind awake_ev (Ev.now _))
  unfold hibernaclelaw12_ExeWords.f
  by_cases hg : (l.length : Int) > 32
  · exact Ev.congr (fun k => if_pos hg) off
  · refine Ev.congr (fun k => if_neg hg) ?_
    by_cases h0 : l.length = 0
    · rw [show ((l.length : Int) == 0) = true by simp [h0]]
      exact off
    · rw [show ((l.length : Int) == 0) = false by simp only [beq_eq_false_iff_ne]; omega]
      refine Ev.step (f := fun k => hibernaclelaw12_ExeWords.l0 k l ((0 : Nat) : Int) ((l.take 0).map fun x => (en x).1) (⟨#[]⟩ : ByteArray) 0 0) (fun k => by simp only [hibernaclelaw12_ExeWords.j0]; rw [if_neg (by simp)]; rfl) (words_in l (by omega) (by omega) ok l.length 0 (by omega) (by simp))
end Go.Proofs.Ytgjhabeoaejcdaa.Q
end
