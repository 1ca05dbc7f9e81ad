-- Printed for this claim and put together by wip/tools/prune.py.
import Derived.Laws.BitsLemmas
import Derived.Test.YtgjhabeoaejcdaaMCuts2
import Derived.Test.YtgjhabeoaejcdaaMCuts3
import Derived.Test.YtgjhabeoaejcdaaMCuts4
import Derived.Test.YtgjhabeoaejcdaaMCuts5
set_option linter.unusedVariables false
set_option linter.unusedSimpArgs false
section
namespace Go.Proofs.Ytgjhabeoaejcdaa.Q
open Go.RowKit Go.Proofs.Ytgjhabeoaejcdaa.P Go.Proofs.YtgjhabeoaejcdaaW.PrintWords Go.Proofs.YtgjhabeoaejcdaaW.PrintLast Go.Proofs.YtgjhabeoaejcdaaW.PrintMore
theorem str_append (a b : List Int) : strOfNums (a ++ b) = strOfNums a ++ strOfNums b := by
  apply ByteArray.ext
  rw [ByteArray.data_append]
  simp [strOfNums]
theorem app_nil (a : ByteArray) : a ++ (⟨#[]⟩ : ByteArray) = a := by
  apply ByteArray.ext; rw [ByteArray.data_append]; simp
theorem nil_app (a : ByteArray) : (⟨#[]⟩ : ByteArray) ++ a = a := by
  apply ByteArray.ext; rw [ByteArray.data_append]; simp
theorem app_assoc (a b c : ByteArray) : a ++ b ++ c = a ++ (b ++ c) := by
  apply ByteArray.ext; simp only [ByteArray.data_append, Array.append_assoc]
def zs (n : Nat) : ByteArray := strOfNums (List.replicate n 0)
theorem zs_size (n : Nat) : (zs n).size = n := by rw [zs, strOfNums_size, List.length_replicate]
theorem repeat_zs (n : Nat) (h : n ≤ 140737488355328) : strings_Repeat.f (⟨#[0]⟩ : ByteArray) n = some (zs n) := by
  unfold strings_Repeat.f
  have h1 : (⟨#[0]⟩ : ByteArray).size = 1 := rfl
  rw [if_pos ⟨by omega, by omega, by rw [h1]; omega⟩]
  congr 1
  have : ∀ m, Lib.repeatL [0] m = List.replicate m 0 := by
    intro m
    induction m with
    | zero => rfl
    | succ m ih => simp [Lib.repeatL, ih, List.replicate_succ]
  show (⟨(Lib.repeatL [0] ((n : Int)).toNat).toArray⟩ : ByteArray) = _
  rw [this, Int.toNat_natCast]
  unfold zs strOfNums
  rw [List.map_replicate]
  rfl
theorem tdiv_nn {a b : Int} (h : 0 ≤ a) : Int.tdiv a b = a / b := Int.tdiv_eq_ediv_of_nonneg h
theorem tmod_nn {a b : Int} (h : 0 ≤ a) : Int.tmod a b = a % b := Int.tmod_eq_emod_of_nonneg h
def pg (n : Nat) : Nat := (n + 127) / 128
theorem exe_pages_eq (n : Nat) (h : n ≤ 4611686018427387904) : exe_pages.f n = some (pg n : Int) := by
  unfold exe_pages.f pg
  rw [wrap64_id (n := (n : Int) + 128) (by omega) (by omega), wrap64_id (n := (n : Int) + 128 - 1) (by omega) (by omega), tdiv_nn (by omega), wrap64_id (by omega) (by omega)]
  rw [Option.some.injEq]; omega
def tx (l : List Int) : ByteArray := strOfNums (textNums l)
theorem tx_size (l : List Int) : (tx l).size = 4 * l.length := by rw [tx, strOfNums_size, textNums_length]
theorem exe_text_eq (l : List Int) (hl : l.length ≤ 100000) : exe_text.f l = some (tx l) := by
  unfold exe_text.f; rw [if_pos (by omega)]; rfl
end Go.Proofs.Ytgjhabeoaejcdaa.Q
end
section
namespace Go.Proofs.Ytgjhabeoaejcdaa.Q
open Go.RowKit Go.Proofs.Ytgjhabeoaejcdaa.P Go.Proofs.YtgjhabeoaejcdaaW.PrintWords Go.Proofs.YtgjhabeoaejcdaaW.PrintLast Go.Proofs.YtgjhabeoaejcdaaW.PrintMore
def chk (l : List Int) (b : ByteArray) (c e : Int) : Int :=
  if 1 ≤ l.length ∧ l.length ≤ 448 ∧ 0 ≤ c ∧ c ≤ 1792 ∧ e % 4 = 0 ∧ e < 4 * (l.length : Int) ∧ pg (4 * l.length) + pg (b.size + c.toNat) ≤ 14 then 0 else 1
theorem u32_id {n : Int} (h0 : 0 ≤ n) (h1 : n < 4294967296) : IntKind.u32.wrap n = n := by
  unfold IntKind.wrap
  simp [IntKind.bits, IntKind.signed]
  omega
theorem exe_check (l : List Int) (b : ByteArray) (c e : Int) (hb : b.size ≤ 1000000000) (he0 : 0 ≤ e) : exe_Check.f l b c e = some (chk l b c e) := by
  unfold exe_Check.f chk
  by_cases h1 : l.length < 1
  · rw [if_pos (by omega), if_neg (by omega)]
  rw [if_neg (by omega)]
  by_cases h2 : 448 < l.length
  · rw [if_pos (by omega), if_neg (by omega)]
  rw [if_neg (by omega)]
  by_cases h3 : c < 0
  · rw [if_pos h3, if_neg (by omega)]
  rw [if_neg h3]
  by_cases h4 : 1792 < c
  · rw [if_pos (by omega), if_neg (by omega)]
  rw [if_neg (by omega), tmod_nn he0]
  by_cases h5 : e % 4 = 0
  · rw [if_pos h5, wrap64_id (n := 4 * (l.length : Int)) (by omega) (by omega), u32_id (n := 4 * (l.length : Int)) (by omega) (by omega)]
    by_cases h6 : e < 4 * (l.length : Int)
    · have e1 : 4 * (l.length : Int) = ((4 * l.length : Nat) : Int) := by omega
      have e2 : (b.size : Int) + c = ((b.size + c.toNat : Nat) : Int) := by omega
      have p1 : pg (4 * l.length) ≤ 15 := by unfold pg; omega
      have p2 : pg (b.size + c.toNat) ≤ 100000000 := by unfold pg; omega
      rw [if_neg (by omega), e1, exe_pages_eq _ (by omega), Option.bind_some, wrap64_id (n := (b.size : Int) + c) (by omega) (by omega), e2, exe_pages_eq _ (by omega), Option.bind_some,
        wrap64_id (n := (pg (4 * l.length) : Int) + (pg (b.size + c.toNat) : Int)) (by omega) (by omega)]
      by_cases h7 : pg (4 * l.length) + pg (b.size + c.toNat) ≤ 14
      · rw [if_neg (by omega), if_pos (by omega)]
      · rw [if_pos (by omega), if_neg (by omega)]
    · rw [if_pos (by omega), if_neg (by omega)]
  · rw [if_neg h5, if_neg (by omega)]
def page (s : ByteArray) (i : Nat) : ByteArray := (s ++ zs (128 * pg s.size - s.size)).extract (128 * i) (128 * i + 128)
def pagesOf (s : ByteArray) (at_ : Int) (wr : Bool) : List S33 := (List.range (pg s.size)).map fun i => ⟨at_ + (i : Nat), page s i, wr⟩
theorem pagesOf_length (s : ByteArray) (at_ : Int) (wr : Bool) : (pagesOf s at_ wr).length = pg s.size := by simp [pagesOf]
theorem zs_add (a b : Nat) : zs (a + b) = zs a ++ zs b := by unfold zs; rw [← List.replicate_append_replicate, str_append]
theorem extract_all (s : ByteArray) (n : Nat) (h : s.size ≤ n) : s.extract 0 n = s := by
  apply ByteArray.ext
  rw [ByteArray.data_extract]
  apply Array.toList_inj.mp
  rw [Array.toList_extract, List.extract_eq_take_drop]
  simp
  have : s.data.size = s.size := rfl
  rw [List.take_of_length_le (by rw [Array.length_toList]; omega)]
theorem extract_none (s : ByteArray) (a b : Nat) (h : s.size ≤ a ∨ b ≤ a) : s.extract a b = ⟨#[]⟩ := by
  have h1 : (s.extract a b).size = 0 := by rw [ByteArray.size_extract]; omega
  apply ByteArray.ext
  exact Array.eq_empty_of_size_eq_zero h1
theorem zs_extract (n m : Nat) (h : m ≤ n) : (zs n).extract 0 m = zs m := by
  obtain ⟨d, rfl⟩ := Nat.exists_eq_add_of_le h
  rw [zs_add, ByteArray.extract_append, zs_size, extract_all _ _ (by rw [zs_size]; omega), extract_none _ _ _ (by omega), app_nil]
theorem page_eq (s : ByteArray) (i : Nat) (h : i < pg s.size) :
    s.extract (128 * i) (min s.size (128 * i + 128)) ++ zs (128 - (s.extract (128 * i) (min s.size (128 * i + 128))).size) = page s i := by
  unfold pg at h
  unfold page
  rw [ByteArray.extract_append]
  have hp : pg s.size = (s.size + 127) / 128 := rfl
  have e1 : (s.extract (128 * i) (min s.size (128 * i + 128))).size = min s.size (128 * i + 128) - 128 * i := by rw [ByteArray.size_extract]; omega
  by_cases hl : 128 * i + 128 ≤ s.size
  · rw [e1, Nat.min_eq_right hl, extract_none (zs _) _ _ (by omega), show 128 - (128 * i + 128 - 128 * i) = 0 by omega]; rfl
  · have e2 : s.extract (128 * i) (min s.size (128 * i + 128)) = s.extract (128 * i) (128 * i + 128) := by
      apply ByteArray.ext
      rw [ByteArray.data_extract, ByteArray.data_extract]
      apply Array.toList_inj.mp
      rw [Array.toList_extract, Array.toList_extract, List.extract_eq_take_drop, List.extract_eq_take_drop]
      have : s.data.size = s.size := rfl
      rw [List.take_of_length_le (by rw [List.length_drop, Array.length_toList]; omega), List.take_of_length_le (by rw [List.length_drop, Array.length_toList]; omega)]
    rw [e1, e2, Nat.min_eq_left (by omega), show 128 * i - s.size = 0 by omega, zs_extract _ _ (by omega)]
    congr 2
    omega
theorem range_drop_map {α : Type} (n i : Nat) (f : Nat → α) (h : i < n) : ((List.range n).drop i).map f = f i :: ((List.range n).drop (i + 1)).map f := by
  rw [List.drop_eq_getElem_cons (by simpa using h)]
  simp
theorem exe_cut_loop (s : ByteArray) (at_ : Int) (wr : Bool) (hs : s.size ≤ 1000000) (ha0 : 0 ≤ at_) (ha1 : at_ ≤ 1000000) : ∀ (d i : Nat) (acc : List S33), i + d = pg s.size → acc.length = i →
    Ev (fun k => exe_cut.l0 k s at_ wr acc (pg s.size : Int) i) (acc ++ ((List.range (pg s.size)).drop i).map fun (i : Nat) => ⟨at_ + (i : Nat), page s i, wr⟩) := by
  have hp : pg s.size = (s.size + 127) / 128 := rfl
  intro d
  induction d with
  | zero =>
    intro i acc hi ha
    refine Ev.step (f := fun _ => some acc) (fun k => ?_) ?_
    · simp only [exe_cut.l0]; rw [if_neg (by omega)]
    · rw [List.drop_of_length_le (by simp; omega)]; simp only [List.map_nil, List.append_nil]; exact Ev.now _
  | succ d ih =>
    intro i acc hi ha
    have e1 : wrap64 ((i : Int) + 1) = ((i + 1 : Nat) : Int) := by rw [wrap64_id (by omega) (by omega)]; omega
    have e2 : wrap64 ((i : Int) * 128) = ((128 * i : Nat) : Int) := by rw [wrap64_id (by omega) (by omega)]; omega
    have e3 : wrap64 (((i + 1 : Nat) : Int) * 128) = ((128 * i + 128 : Nat) : Int) := by rw [wrap64_id (by omega) (by omega)]; omega
    have e4 : mn (s.size : Int) ((128 * i + 128 : Nat) : Int) = ((min s.size (128 * i + 128) : Nat) : Int) := by unfold mn; split <;> omega
    have e5 : wrap64 (at_ + (i : Int)) = at_ + (i : Nat) := wrap64_id (by omega) (by omega)
    have e6 : (s.extract (128 * i) (min s.size (128 * i + 128))).size = min s.size (128 * i + 128) - 128 * i := by rw [ByteArray.size_extract]; omega
    have e7 : wrap64 (128 - ((s.extract (128 * i) (min s.size (128 * i + 128))).size : Int)) = ((128 - (s.extract (128 * i) (min s.size (128 * i + 128))).size : Nat) : Int) := by rw [wrap64_id (by omega) (by omega)]; omega
    refine Ev.step (f := fun k => exe_cut.l0 k s at_ wr (acc ++ [⟨at_ + (i : Nat), page s i, wr⟩]) (pg s.size : Int) ((i + 1 : Nat) : Int)) (fun k => ?_) ?_
    · simp only [exe_cut.l0]
      simp only [e1, e2, e3, e4, e5, Int.toNat_natCast, e7]
      rw [if_pos (by omega), if_pos (by omega), if_pos (by omega), if_pos (by omega), repeat_zs _ (by omega), Option.bind_some, page_eq s i (by omega), zs_size, if_pos (by omega), if_pos (by omega)]
    · have := ih (i + 1) (acc ++ [⟨at_ + (i : Nat), page s i, wr⟩]) (by omega) (by simp [ha])
      rw [range_drop_map _ _ _ (by omega)]
      simpa using this
theorem exe_cut_eq (s : ByteArray) (at_ : Int) (wr : Bool) (hs : s.size ≤ 1000000) (ha0 : 0 ≤ at_) (ha1 : at_ ≤ 1000000) : Ev (fun k => exe_cut.f k s at_ wr) (pagesOf s at_ wr) := by
  unfold exe_cut.f
  simp only [exe_pages_eq s.size (by omega), Option.bind_some]
  have := exe_cut_loop s at_ wr hs ha0 ha1 (pg s.size) 0 [] (by omega) rfl
  simpa [pagesOf] using this
def lays (l : List Int) (b : ByteArray) (c : Nat) : List S33 :=
  pagesOf (tx l) 0 false ++ pagesOf (b ++ zs c) (pg (4 * l.length) : Int) true ++ [⟨15, zs 128, true⟩]
theorem last_page : pagesOf (zs 128) 15 true = [⟨15, zs 128, true⟩] := by
  unfold pagesOf
  rw [zs_size, show pg 128 = 1 from rfl]
  simp [page, zs_size, show pg 128 = 1 from rfl]
  rw [show zs 0 = (⟨#[]⟩ : ByteArray) from rfl, app_nil, extract_all _ _ (by rw [zs_size]; omega)]
theorem chk_bounds {l : List Int} {b : ByteArray} {c e : Int} (h : chk l b c e = 0) : 1 ≤ l.length ∧ l.length ≤ 448 ∧ 0 ≤ c ∧ c ≤ 1792 ∧ e % 4 = 0 ∧ e < 4 * (l.length : Int) ∧ pg (4 * l.length) + pg (b.size + c.toNat) ≤ 14 := by
  unfold chk at h
  split at h
  · assumption
  · omega
theorem exe_lay (l : List Int) (b : ByteArray) (c e : Int) (hb : b.size ≤ 1000000000) (he0 : 0 ≤ e) :
    Ev (fun k => exe_Lay.f k l b c e) (if chk l b c e = 0 then (lays l b c.toNat, 0) else ([], 1)) := by
  unfold exe_Lay.f
  simp only [exe_check l b c e hb he0, Option.bind_some]
  by_cases hc : chk l b c e = 0
  · have H := chk_bounds hc
    have hp := H.2.2.2.2.2.2
    have hb2 : b.size ≤ 1792 := by unfold pg at hp; omega
    rw [if_pos hc]
    refine Ev.congr (fun k => if_pos hc) ?_
    simp only [exe_text_eq l (by omega), Option.bind_some]
    refine Ev.bind (exe_cut_eq (tx l) 0 false (by rw [tx_size]; omega) (by omega) (by omega)) ?_
    obtain ⟨n, rfl⟩ := Int.eq_ofNat_of_zero_le H.2.2.1
    rw [Int.toNat_natCast] at *
    unfold exe_Lay_1.f
    simp only [repeat_zs n (by omega), Option.bind_some, zs_size]
    refine Ev.congr (fun k => if_pos (by omega)) ?_
    have p1 : pg (4 * l.length) ≤ 14 := by omega
    have hz : (b ++ zs n).size = b.size + n := by rw [ByteArray.size_append, zs_size]
    refine Ev.bind (exe_cut_eq (b ++ zs n) _ true (by rw [hz]; omega) (by omega) (by rw [pagesOf_length, tx_size]; omega)) ?_
    refine Ev.congr (fun k => if_pos (by rw [pagesOf_length, pagesOf_length, tx_size, hz]; omega)) ?_
    have h128 := repeat_zs 128 (by omega)
    rw [show ((128 : Nat) : Int) = 128 from rfl] at h128
    simp only [h128, Option.bind_some]
    refine Ev.bind (exe_cut_eq (zs 128) 15 true (by rw [zs_size]; omega) (by omega) (by omega)) ?_
    rw [last_page, pagesOf_length, tx_size]
    refine Ev.congr (fun k => if_pos (by rw [List.length_append, pagesOf_length, pagesOf_length, tx_size, hz]; simp only [List.length_cons, List.length_nil]; omega)) ?_
    exact Ev.now _
  · rw [if_neg hc]
    refine Ev.congr (fun k => if_neg hc) ?_
    have : chk l b c e = 1 := by unfold chk at *; split <;> simp_all
    rw [this]
    exact Ev.now _
end Go.Proofs.Ytgjhabeoaejcdaa.Q
end
section
namespace Go.Proofs.Ytgjhabeoaejcdaa.Q
open Go.RowKit Go.Proofs.Ytgjhabeoaejcdaa.P Go.Proofs.YtgjhabeoaejcdaaW.PrintWords Go.Proofs.YtgjhabeoaejcdaaW.PrintLast Go.Proofs.YtgjhabeoaejcdaaW.PrintMore
def le (x : Int) (n : Nat) : ByteArray := strOfNums (leNums x n)
theorem le_size (x : Int) (n : Nat) : (le x n).size = n := by rw [le, strOfNums_size, leNums_length]
theorem put_eq (x : Int) (n : Nat) (hn : n ≤ 8) : num_Put.f x n = some (le x n) := by
  unfold num_Put.f
  rw [show (min (max (n : Int) 0) 8).toNat = n by omega]; rfl
theorem u64_same {x : Int} (h0 : 0 ≤ x) (h1 : x < 18446744073709551616) : IntKind.u64.wrap x = x := by rw [u64_wrap]; omega
def headOf (l : List Int) (b : ByteArray) (c e : Int) : ByteArray := (⟨#[104, 105, 98, 120]⟩ : ByteArray) ++ le e 4 ++ le l.length 2 ++ le b.size 2 ++ le c 2
def fileOf (l : List Int) (b : ByteArray) (c e : Int) : ByteArray := headOf l b c e ++ tx l ++ b
theorem hibx_size : (⟨#[104, 105, 98, 120]⟩ : ByteArray).size = 4 := rfl
theorem head_size (l : List Int) (b : ByteArray) (c e : Int) : (headOf l b c e).size = 14 := by
  unfold headOf; simp only [ByteArray.size_append, le_size, hibx_size]
theorem file_size (l : List Int) (b : ByteArray) (c e : Int) : (fileOf l b c e).size = 14 + 4 * l.length + b.size := by
  unfold fileOf; simp only [ByteArray.size_append, head_size, tx_size]
theorem exe_bytes (l : List Int) (b : ByteArray) (c e : Int) (hb : b.size ≤ 1000000000) (he0 : 0 ≤ e) (he1 : e < 4294967296) :
    exe_Bytes.f l b c e = some (if chk l b c e = 0 then (fileOf l b c e, 0) else ((⟨#[]⟩ : ByteArray), 1)) := by
  unfold exe_Bytes.f
  rw [exe_check l b c e hb he0, Option.bind_some]
  by_cases hc : chk l b c e = 0
  · have H := chk_bounds hc
    have hp := H.2.2.2.2.2.2
    have hb2 : b.size ≤ 1792 := by unfold pg at hp; omega
    have p4 := put_eq e 4 (by omega)
    have p1 := put_eq (l.length : Int) 2 (by omega)
    have p2 := put_eq (b.size : Int) 2 (by omega)
    have p3 := put_eq c 2 (by omega)
    rw [show ((4 : Nat) : Int) = 4 from rfl] at p4
    rw [show ((2 : Nat) : Int) = 2 from rfl] at p1 p2 p3
    rw [if_pos hc, if_pos hc, u64_same he0 (by omega), p4, Option.bind_some, if_pos (by rw [le_size]; omega)]
    unfold exe_Bytes_1.f
    rw [u64_same (x := (l.length : Int)) (by omega) (by omega), u64_same (x := (b.size : Int)) (by omega) (by omega), u64_same (x := c) (by omega) (by omega), p1, p2, p3, exe_text_eq l (by omega)]
    simp only [Option.bind_some, ByteArray.size_append, le_size, hibx_size, tx_size]
    rw [if_pos (by omega), if_pos (by omega), if_pos (by omega), if_pos (by omega), if_pos (by omega)]
    rfl
  · have : chk l b c e = 1 := by unfold chk at *; split <;> simp_all
    rw [if_neg hc, if_neg hc, this]
theorem chk_one : chk [7] ⟨#[]⟩ 0 0 = 0 := by decide
theorem lays_one : lays [7] ⟨#[]⟩ 0 = [⟨0, page (tx [7]) 0, false⟩, ⟨15, zs 128, true⟩] := by
  unfold lays pagesOf
  rw [tx_size, ByteArray.size_append, zs_size]
  rfl
theorem awake_ev : Ev (fun k => hibernaclelaw12_awake.f k) true := by
  unfold hibernaclelaw12_awake.f
  simp only [Option.bind_some]
  have hb := exe_bytes [7] ⟨#[]⟩ 0 0 (by decide) (by omega) (by omega)
  have hl := exe_lay [7] ⟨#[]⟩ 0 0 (by decide) (by omega)
  rw [chk_one, if_pos rfl] at hb hl
  simp only [hb, Option.bind_some]
  refine Ev.bind hl ?_
  have e18 : ((fileOf [7] ⟨#[]⟩ 0 0).size : Int) = 18 := by rw [file_size]; rfl
  simp only [show (0 : Int).toNat = 0 from rfl, lays_one, e18]
  exact Ev.now _
theorem great_eq (l : List Int) (b : ByteArray) (c e : Int) : hibernaclelaw12_great.f l b c e = some (decide (l.length > 600 ∨ b.size > 3000)) := by
  unfold hibernaclelaw12_great.f
  by_cases h : l.length > 600
  · rw [if_pos (by omega), decide_eq_true (Or.inl h)]
  · rw [if_neg (by omega)]
    congr 1
    apply decide_eq_decide.mpr
    omega
end Go.Proofs.Ytgjhabeoaejcdaa.Q
end
section
namespace Go.Proofs.Ytgjhabeoaejcdaa.Q
open Go.RowKit Go.Proofs.Ytgjhabeoaejcdaa.P Go.Proofs.YtgjhabeoaejcdaaW.PrintWords Go.Proofs.YtgjhabeoaejcdaaW.PrintLast Go.Proofs.YtgjhabeoaejcdaaW.PrintMore
def ofB : List Int → Int
  | [] => 0
  | x :: xs => x + 256 * ofB xs
theorem bytesOf_range (s : ByteArray) : ∀ x ∈ bytesOf s, 0 ≤ x ∧ x < 256 := by
  intro x hx
  unfold bytesOf at hx
  obtain ⟨b, _, rfl⟩ := List.mem_map.mp hx
  have := b.toNat_lt
  omega
theorem bytesOf_str (xs : List Int) (h : ∀ x ∈ xs, 0 ≤ x ∧ x < 256) : bytesOf (strOfNums xs) = xs := by
  unfold bytesOf
  rw [strOfNums_data, List.map_map]
  conv => rhs; rw [← List.map_id xs]
  apply List.map_congr_left
  intro x hx
  have := h x hx
  simp only [Function.comp, id]
  rw [UInt8.toNat_ofNat']
  omega
theorem bt_getD (s : ByteArray) (i : Nat) : bt s (i : Int) = (bytesOf s).getD i 0 := by
  rw [← rd_bytesOf]; unfold rd; rw [Int.toNat_natCast]
theorem byte_at (s : ByteArray) (i : Nat) (h : i < s.size) : 0 ≤ bt s (i : Int) ∧ bt s (i : Int) < 256 := by
  have := bt_range s (i : Int); omega
theorem bits_up (acc b : Int) (i : Nat) (hi : i ≤ 7) (ha0 : 0 ≤ acc) (ha : acc < 256 ^ i) (hb0 : 0 ≤ b) (hb : b < 256) :
    bits .or .u64 acc (shl .u64 (IntKind.u64.wrap b) (8 * (i : Int))) = acc + b * 256 ^ i := by
  have hw : ∀ n : Int, 0 ≤ n → n < 2 ^ 64 → IntKind.u64.wrap n = n := fun n h0 h1 => by rw [u64_wrap]; omega
  have e1 : (2 : Int) ^ min (8 * (i : Int)).toNat IntKind.u64.bits = 256 ^ i := by
    have : min (8 * (i : Int)).toNat IntKind.u64.bits = 8 * i := by
      have : IntKind.u64.bits = 64 := rfl
      omega
    rw [this, two_pow8]
  have hp : (0 : Int) < 256 ^ i := Int.pow_pos (by omega)
  have hm : (256 : Int) ^ i * 256 ≤ 18446744073709551616 := by
    have : (256 : Int) ^ i ≤ 72057594037927936 := by
      obtain rfl | rfl | rfl | rfl | rfl | rfl | rfl | rfl : i = 0 ∨ i = 1 ∨ i = 2 ∨ i = 3 ∨ i = 4 ∨ i = 5 ∨ i = 6 ∨ i = 7 := by omega
      all_goals decide
    omega
  have h2 : b * 256 ^ i ≤ 255 * 256 ^ i := Int.mul_le_mul_of_nonneg_right (by omega) (by omega)
  have h3 : 0 ≤ b * 256 ^ i := Int.mul_nonneg hb0 (by omega)
  have h4 : b * 256 ^ i < 18446744073709551616 := by omega
  have h5 : acc < 18446744073709551616 := by omega
  unfold shl
  rw [e1, u64_same (x := b) hb0 (by omega), u64_same h3 h4]
  obtain ⟨x, hx⟩ := Int.eq_ofNat_of_zero_le h3
  obtain ⟨a, rfl⟩ := Int.eq_ofNat_of_zero_le ha0
  have hj := bits_join .u64 64 (by decide) hw (8 * i) (b * 256 ^ i) a h3 (by rw [two_pow8]; exact Int.mul_emod_left b (256 ^ i)) (by omega) (by omega) (by rw [two_pow8]; exact ha) (by omega)
  rw [hx] at hj ⊢
  have b1 := (bits_nat .u64 64 (by decide) hw a x (by omega) (by omega)).2
  have b2 := (bits_nat .u64 64 (by decide) hw x a (by omega) (by omega)).2
  rw [b1, Nat.or_comm, ← b2, hj]
  omega
theorem ofB_range (xs : List Int) (h : ∀ x ∈ xs, 0 ≤ x ∧ x < 256) : 0 ≤ ofB xs ∧ ofB xs < 256 ^ xs.length := by
  induction xs with
  | nil => simp [ofB]
  | cons x xs ih =>
    have h1 := ih fun y hy => h y (List.mem_cons_of_mem _ hy)
    have h2 := h x (List.mem_cons_self ..)
    simp only [ofB, List.length_cons, Int.pow_succ]
    omega
theorem ofB_append (a b : List Int) : ofB (a ++ b) = ofB a + 256 ^ a.length * ofB b := by
  induction a with
  | nil => simp [ofB]
  | cons x a ih => simp only [List.cons_append, ofB, ih, List.length_cons, Int.pow_succ]; rw [Int.mul_add, ← Int.mul_assoc, Int.mul_comm (256 ^ a.length) 256]; omega
theorem num_get_loop (s : ByteArray) (hs : s.size ≤ 8) : ∀ (d i : Nat), i + d = s.size →
    Ev (fun k => num_Get.l0 k s (ofB ((bytesOf s).take i)) (s.size : Int) i) (ofB (bytesOf s)) := by
  intro d
  induction d with
  | zero =>
    intro i hi
    refine Ev.step (f := fun _ => some (ofB (bytesOf s))) (fun k => ?_) (Ev.now _)
    simp only [num_Get.l0]; rw [if_neg (by omega), List.take_of_length_le (by rw [bytesOf_length]; omega)]
  | succ d ih =>
    intro i hi
    have e1 : wrap64 ((i : Int) + 1) = ((i + 1 : Nat) : Int) := by rw [wrap64_id (by omega) (by omega)]; omega
    have e8 : wrap64 (8 * (i : Int)) = 8 * (i : Int) := wrap64_id (by omega) (by omega)
    have hl : ((bytesOf s).take i).length = i := by rw [List.length_take, bytesOf_length]; omega
    have hr := ofB_range ((bytesOf s).take i) fun x hx => bytesOf_range s x (List.mem_of_mem_take hx)
    rw [hl] at hr
    have hb := byte_at s i (by omega)
    refine Ev.step (f := fun k => num_Get.l0 k s (ofB ((bytesOf s).take (i + 1))) (s.size : Int) ((i + 1 : Nat) : Int)) (fun k => ?_) (ih (i + 1) (by omega))
    simp only [num_Get.l0, e1, e8]
    rw [if_pos (by omega), if_pos (by omega), if_pos (by omega), if_pos (by omega), bits_up _ _ i (by omega) hr.1 hr.2 hb.1 hb.2]
    congr 1
    rw [List.take_add_one, ofB_append, hl, bt_getD, List.getD_eq_getElem?_getD]
    rw [List.getElem?_eq_getElem (by rw [bytesOf_length]; omega)]
    simp only [Option.getD_some, Option.toList_some, ofB]
    rw [Int.mul_zero, Int.add_zero, Int.mul_comm]
theorem num_get (s : ByteArray) (hs : s.size ≤ 8) : Ev (fun k => num_Get.f k s) (ofB (bytesOf s)) := by
  have := num_get_loop s hs s.size 0 (by omega)
  unfold num_Get.f
  rw [show mn (s.size : Int) 8 = (s.size : Int) by unfold mn; split <;> omega]
  exact this
theorem bytesOf_le (x : Int) (n : Nat) : bytesOf (le x n) = leNums x n := bytesOf_str _ (leNums_range n x)
theorem ofB_le4 (x : Int) : ofB (leNums x 4) = x % 4294967296 := by simp only [leNums, ofB]; omega
theorem ofB_le2 (x : Int) : ofB (leNums x 2) = x % 65536 := by simp only [leNums, ofB]; omega
theorem extract_left (a c : ByteArray) (i j : Nat) (h : j ≤ a.size) : (a ++ c).extract i j = a.extract i j := by
  rw [ByteArray.extract_append, extract_none c _ _ (by omega), app_nil]
theorem extract_right (a c : ByteArray) (i j : Nat) : (a ++ c).extract (a.size + i) (a.size + j) = c.extract i j := by
  rw [ByteArray.extract_append, extract_none a _ _ (by omega), nil_app, Nat.add_sub_cancel_left, Nat.add_sub_cancel_left]
theorem extract_mid (a b c : ByteArray) : (a ++ (b ++ c)).extract a.size (a.size + b.size) = b := by
  have := extract_right a (b ++ c) 0 b.size
  rw [Nat.add_zero] at this
  rw [this, extract_left _ _ _ _ (Nat.le_refl _), extract_all _ _ (Nat.le_refl _)]
end Go.Proofs.Ytgjhabeoaejcdaa.Q
end
section
namespace Go.Proofs.Ytgjhabeoaejcdaa.P
open Go.RowKit Go.Proofs.YtgjhabeoaejcdaaW.PrintWords Go.Proofs.YtgjhabeoaejcdaaW.PrintLast Go.Proofs.YtgjhabeoaejcdaaW.PrintMore
def exe_Of_1.f (i n : Int) (s : ByteArray) : Option Int :=
  if 0 ≤ i ∧ 0 ≤ n ∧ n ≤ 4 ∧ i + n ≤ (s.size : Int) ∧ (s.size : Int) ≤ 4611686018427387904 then some (Q.ofB (bytesOf (s.extract i.toNat (i + n).toNat))) else none
set_option maxHeartbeats 1000000 in
theorem exe_Of_1.calls (i n : Int) (s : ByteArray) (r : Int) (w : World) {g : Nat} (hb : w.heap[g]? = some (.cells #[.string s] 9 (0, 0))) (h : exe_Of_1.f i n s = some r) :
    Calls Try.prog 35 #[.int .i64 i, .int .i64 n, .pointer (some ⟨g, 0, none⟩)] w fun e w' => e = .returned (.int .i64 r) ∧ Below w.heap.size w w' := by
  unfold exe_Of_1.f at h
  split at h
  · rename_i hc
    obtain ⟨h0, h1, h2, h3, h4⟩ := hc
    have hr := Option.some.inj h
    have hs : (s.extract i.toNat (i + n).toNat).size ≤ 8 := by rw [ByteArray.size_extract]; omega
    have hs4 : (bytesOf (s.extract i.toNat (i + n).toNat)).length ≤ 4 := by rw [bytesOf_length, ByteArray.size_extract]; omega
    have hrg := Q.ofB_range _ (Q.bytesOf_range (s.extract i.toNat (i + n).toNat))
    have hp : (256 : Int) ^ (bytesOf (s.extract i.toNat (i + n).toNat)).length ≤ 4294967296 := by
      generalize (bytesOf (s.extract i.toNat (i + n).toNat)).length = m at hs4
      obtain rfl | rfl | rfl | rfl | rfl : m = 0 ∨ m = 1 ∨ m = 2 ∨ m = 3 ∨ m = 4 := by omega
      all_goals decide
    rw [hr] at hrg
    have hw : wrap64 r = r := wrap64_id (by omega) (by omega)
    obtain ⟨k, hk⟩ := (Q.num_get _ hs).rounds
    rw [hr] at hk
    have HK := Aside0.mk hk
    have HW := Aside0.mk hw
    have hcell : w.cell? ⟨g, 0, none⟩ = some (.string s) := (blk_cell hb 0).trans rfl
    have hi : IntKind.i64.wrap (i + n) = i + n := by rw [i64_w]; exact wrap64_id (by omega) (by omega)
    have hi2 : wrap64 (i + n) = i + n := wrap64_id (by omega) (by omega)
    have b0 : 0 ≤ i + n := by omega
    have b1 : i ≤ i + n := by omega
    clear h hr hb hs hs4 hrg hp hk hw
    go_enter Try.func35, Try.ntmps35
    go_wp2_with fail
    refine (num_Get.calls k (s.extract i.toNat (i + n).toNat) r _ HK.out).mono ?_
    rintro e w1 ⟨rfl, hb1⟩
    have HB := Aside0.mk hb1
    clear hb1
    go_wp2
    go_ret
    exact ⟨congrArg (fun z => Ending.returned (Value.int .i64 z)) HW.out, HB.out⟩
  · exact absurd h (by simp)
end Go.Proofs.Ytgjhabeoaejcdaa.P
end
