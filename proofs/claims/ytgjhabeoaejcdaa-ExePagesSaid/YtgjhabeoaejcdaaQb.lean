import Derived.Test.YtgjhabeoaejcdaaPx0
import Derived.Test.YtgjhabeoaejcdaaPx4
import Derived.Test.YtgjhabeoaejcdaaPx5
import Derived.Test.YtgjhabeoaejcdaaPx6
import Derived.Test.YtgjhabeoaejcdaaPx7
import Derived.Test.YtgjhabeoaejcdaaQa
/- The plain law of the program's pages, second part: what may be, pages, the whole. -/
namespace Go.Proofs.Ytgjhabeoaejcdaa.Q
open Go.RowKit Go.Proofs.Ytgjhabeoaejcdaa.P Go.Proofs.YtgjhabeoaejcdaaW.PrintWords Go.Proofs.YtgjhabeoaejcdaaW.PrintLast Go.Proofs.YtgjhabeoaejcdaaW.PrintMore

/-- May a program be: 0, or why not. -/
def chk (l : List Int) (b : ByteArray) (c e : Int) : Int :=
  if 1 ≤ l.length ∧ l.length ≤ 448 ∧ 0 ≤ c ∧ c ≤ 1792 ∧ e % 4 = 0 ∧ e < 4 * (l.length : Int) ∧ pg (4 * l.length) + pg (b.size + c.toNat) ≤ 14 then 0 else 1

theorem u32_id {n : Int} (h0 : 0 ≤ n) (h1 : n < 4294967296) : IntKind.u32.wrap n = n := by
  unfold IntKind.wrap
  simp [IntKind.bits, IntKind.signed]
  omega
theorem exe_check (l : List Int) (b : ByteArray) (c e : Int) (hb : b.size ≤ 1000000000) (he0 : 0 ≤ e) : exe_Check.f l b c e = some (chk l b c e) := by
  unfold exe_Check.f chk
  by_cases h1 : l.length < 1
  · rw [if_pos (by omega), if_neg (by omega)]
  rw [if_neg (by omega)]
  by_cases h2 : 448 < l.length
  · rw [if_pos (by omega), if_neg (by omega)]
  rw [if_neg (by omega)]
  by_cases h3 : c < 0
  · rw [if_pos h3, if_neg (by omega)]
  rw [if_neg h3]
  by_cases h4 : 1792 < c
  · rw [if_pos (by omega), if_neg (by omega)]
  rw [if_neg (by omega), tmod_nn he0]
  by_cases h5 : e % 4 = 0
  · rw [if_pos h5, wrap64_id (n := 4 * (l.length : Int)) (by omega) (by omega), u32_id (n := 4 * (l.length : Int)) (by omega) (by omega)]
    by_cases h6 : e < 4 * (l.length : Int)
    · have e1 : 4 * (l.length : Int) = ((4 * l.length : Nat) : Int) := by omega
      have e2 : (b.size : Int) + c = ((b.size + c.toNat : Nat) : Int) := by omega
      have p1 : pg (4 * l.length) ≤ 15 := by unfold pg; omega
      have p2 : pg (b.size + c.toNat) ≤ 100000000 := by unfold pg; omega
      rw [if_neg (by omega), e1, exe_pages_eq _ (by omega), Option.bind_some, wrap64_id (n := (b.size : Int) + c) (by omega) (by omega), e2, exe_pages_eq _ (by omega), Option.bind_some,
        wrap64_id (n := (pg (4 * l.length) : Int) + (pg (b.size + c.toNat) : Int)) (by omega) (by omega)]
      by_cases h7 : pg (4 * l.length) + pg (b.size + c.toNat) ≤ 14
      · rw [if_neg (by omega), if_pos (by omega)]
      · rw [if_pos (by omega), if_neg (by omega)]
    · rw [if_pos (by omega), if_neg (by omega)]
  · rw [if_neg h5, if_neg (by omega)]
/-- One page of bytes. -/
def page (s : ByteArray) (i : Nat) : ByteArray := (s ++ zs (128 * pg s.size - s.size)).extract (128 * i) (128 * i + 128)
/-- Bytes as pages. -/
def pagesOf (s : ByteArray) (at_ : Int) (wr : Bool) : List S33 := (List.range (pg s.size)).map fun i => ⟨at_ + (i : Nat), page s i, wr⟩
theorem pagesOf_length (s : ByteArray) (at_ : Int) (wr : Bool) : (pagesOf s at_ wr).length = pg s.size := by simp [pagesOf]
theorem zs_add (a b : Nat) : zs (a + b) = zs a ++ zs b := by unfold zs; rw [← List.replicate_append_replicate, str_append]
theorem extract_all (s : ByteArray) (n : Nat) (h : s.size ≤ n) : s.extract 0 n = s := by
  apply ByteArray.ext
  rw [ByteArray.data_extract]
  apply Array.toList_inj.mp
  rw [Array.toList_extract, List.extract_eq_take_drop]
  simp
  have : s.data.size = s.size := rfl
  rw [List.take_of_length_le (by rw [Array.length_toList]; omega)]
theorem extract_none (s : ByteArray) (a b : Nat) (h : s.size ≤ a ∨ b ≤ a) : s.extract a b = ⟨#[]⟩ := by
  have h1 : (s.extract a b).size = 0 := by rw [ByteArray.size_extract]; omega
  apply ByteArray.ext
  exact Array.eq_empty_of_size_eq_zero h1
theorem zs_extract (n m : Nat) (h : m ≤ n) : (zs n).extract 0 m = zs m := by
  obtain ⟨d, rfl⟩ := Nat.exists_eq_add_of_le h
  rw [zs_add, ByteArray.extract_append, zs_size, extract_all _ _ (by rw [zs_size]; omega), extract_none _ _ _ (by omega), app_nil]
/-- The last page is filled up with zeros. -/
theorem page_eq (s : ByteArray) (i : Nat) (h : i < pg s.size) :
    s.extract (128 * i) (min s.size (128 * i + 128)) ++ zs (128 - (s.extract (128 * i) (min s.size (128 * i + 128))).size) = page s i := by
  unfold pg at h
  unfold page
  rw [ByteArray.extract_append]
  have hp : pg s.size = (s.size + 127) / 128 := rfl
  have e1 : (s.extract (128 * i) (min s.size (128 * i + 128))).size = min s.size (128 * i + 128) - 128 * i := by rw [ByteArray.size_extract]; omega
  by_cases hl : 128 * i + 128 ≤ s.size
  · rw [e1, Nat.min_eq_right hl, extract_none (zs _) _ _ (by omega), show 128 - (128 * i + 128 - 128 * i) = 0 by omega]; rfl
  · have e2 : s.extract (128 * i) (min s.size (128 * i + 128)) = s.extract (128 * i) (128 * i + 128) := by
      apply ByteArray.ext
      rw [ByteArray.data_extract, ByteArray.data_extract]
      apply Array.toList_inj.mp
      rw [Array.toList_extract, Array.toList_extract, List.extract_eq_take_drop, List.extract_eq_take_drop]
      have : s.data.size = s.size := rfl
      rw [List.take_of_length_le (by rw [List.length_drop, Array.length_toList]; omega), List.take_of_length_le (by rw [List.length_drop, Array.length_toList]; omega)]
    rw [e1, e2, Nat.min_eq_left (by omega), show 128 * i - s.size = 0 by omega, zs_extract _ _ (by omega)]
    congr 2
    omega
theorem page_size (s : ByteArray) (i : Nat) (h : i < pg s.size) : (page s i).size = 128 := by
  unfold page pg at *
  rw [ByteArray.size_extract, ByteArray.size_append, zs_size]; omega

theorem range_drop_map {α : Type} (n i : Nat) (f : Nat → α) (h : i < n) : ((List.range n).drop i).map f = f i :: ((List.range n).drop (i + 1)).map f := by
  rw [List.drop_eq_getElem_cons (by simpa using h)]
  simp

theorem exe_cut_loop (s : ByteArray) (at_ : Int) (wr : Bool) (hs : s.size ≤ 1000000) (ha0 : 0 ≤ at_) (ha1 : at_ ≤ 1000000) : ∀ (d i : Nat) (acc : List S33), i + d = pg s.size → acc.length = i →
    Ev (fun k => exe_cut.l0 k s at_ wr acc (pg s.size : Int) i) (acc ++ ((List.range (pg s.size)).drop i).map fun (i : Nat) => ⟨at_ + (i : Nat), page s i, wr⟩) := by
  have hp : pg s.size = (s.size + 127) / 128 := rfl
  intro d
  induction d with
  | zero =>
    intro i acc hi ha
    refine Ev.step (f := fun _ => some acc) (fun k => ?_) ?_
    · simp only [exe_cut.l0]; rw [if_neg (by omega)]
    · rw [List.drop_of_length_le (by simp; omega)]; simp only [List.map_nil, List.append_nil]; exact Ev.now _
  | succ d ih =>
    intro i acc hi ha
    have e1 : wrap64 ((i : Int) + 1) = ((i + 1 : Nat) : Int) := by rw [wrap64_id (by omega) (by omega)]; omega
    have e2 : wrap64 ((i : Int) * 128) = ((128 * i : Nat) : Int) := by rw [wrap64_id (by omega) (by omega)]; omega
    have e3 : wrap64 (((i + 1 : Nat) : Int) * 128) = ((128 * i + 128 : Nat) : Int) := by rw [wrap64_id (by omega) (by omega)]; omega
    have e4 : mn (s.size : Int) ((128 * i + 128 : Nat) : Int) = ((min s.size (128 * i + 128) : Nat) : Int) := by unfold mn; split <;> omega
    have e5 : wrap64 (at_ + (i : Int)) = at_ + (i : Nat) := wrap64_id (by omega) (by omega)
    have e6 : (s.extract (128 * i) (min s.size (128 * i + 128))).size = min s.size (128 * i + 128) - 128 * i := by rw [ByteArray.size_extract]; omega
    have e7 : wrap64 (128 - ((s.extract (128 * i) (min s.size (128 * i + 128))).size : Int)) = ((128 - (s.extract (128 * i) (min s.size (128 * i + 128))).size : Nat) : Int) := by rw [wrap64_id (by omega) (by omega)]; omega
    refine Ev.step (f := fun k => exe_cut.l0 k s at_ wr (acc ++ [⟨at_ + (i : Nat), page s i, wr⟩]) (pg s.size : Int) ((i + 1 : Nat) : Int)) (fun k => ?_) ?_
    · simp only [exe_cut.l0]
      simp only [e1, e2, e3, e4, e5, Int.toNat_natCast, e7]
      rw [if_pos (by omega), if_pos (by omega), if_pos (by omega), if_pos (by omega), repeat_zs _ (by omega), Option.bind_some, page_eq s i (by omega), zs_size, if_pos (by omega), if_pos (by omega)]
    · have := ih (i + 1) (acc ++ [⟨at_ + (i : Nat), page s i, wr⟩]) (by omega) (by simp [ha])
      rw [range_drop_map _ _ _ (by omega)]
      simpa using this
theorem exe_cut_eq (s : ByteArray) (at_ : Int) (wr : Bool) (hs : s.size ≤ 1000000) (ha0 : 0 ≤ at_) (ha1 : at_ ≤ 1000000) : Ev (fun k => exe_cut.f k s at_ wr) (pagesOf s at_ wr) := by
  unfold exe_cut.f
  simp only [exe_pages_eq s.size (by omega), Option.bind_some]
  have := exe_cut_loop s at_ wr hs ha0 ha1 (pg s.size) 0 [] (by omega) rfl
  simpa [pagesOf] using this

/-- The pages that a program begins with. -/
def lays (l : List Int) (b : ByteArray) (c : Nat) : List S33 :=
  pagesOf (tx l) 0 false ++ pagesOf (b ++ zs c) (pg (4 * l.length) : Int) true ++ [⟨15, zs 128, true⟩]
theorem last_page : pagesOf (zs 128) 15 true = [⟨15, zs 128, true⟩] := by
  unfold pagesOf
  rw [zs_size, show pg 128 = 1 from rfl]
  simp [page, zs_size, show pg 128 = 1 from rfl]
  rw [show zs 0 = (⟨#[]⟩ : ByteArray) from rfl, app_nil, extract_all _ _ (by rw [zs_size]; omega)]
theorem chk_bounds {l : List Int} {b : ByteArray} {c e : Int} (h : chk l b c e = 0) : 1 ≤ l.length ∧ l.length ≤ 448 ∧ 0 ≤ c ∧ c ≤ 1792 ∧ e % 4 = 0 ∧ e < 4 * (l.length : Int) ∧ pg (4 * l.length) + pg (b.size + c.toNat) ≤ 14 := by
  unfold chk at h
  split at h
  · assumption
  · omega
theorem exe_lay (l : List Int) (b : ByteArray) (c e : Int) (hb : b.size ≤ 1000000000) (he0 : 0 ≤ e) :
    Ev (fun k => exe_Lay.f k l b c e) (if chk l b c e = 0 then (lays l b c.toNat, 0) else ([], 1)) := by
  unfold exe_Lay.f
  simp only [exe_check l b c e hb he0, Option.bind_some]
  by_cases hc : chk l b c e = 0
  · have H := chk_bounds hc
    have hp := H.2.2.2.2.2.2
    have hb2 : b.size ≤ 1792 := by unfold pg at hp; omega
    rw [if_pos hc]
    refine Ev.congr (fun k => if_pos hc) ?_
    simp only [exe_text_eq l (by omega), Option.bind_some]
    refine Ev.bind (exe_cut_eq (tx l) 0 false (by rw [tx_size]; omega) (by omega) (by omega)) ?_
    obtain ⟨n, rfl⟩ := Int.eq_ofNat_of_zero_le H.2.2.1
    rw [Int.toNat_natCast] at *
    unfold exe_Lay_1.f
    simp only [repeat_zs n (by omega), Option.bind_some, zs_size]
    refine Ev.congr (fun k => if_pos (by omega)) ?_
    have p1 : pg (4 * l.length) ≤ 14 := by omega
    have hz : (b ++ zs n).size = b.size + n := by rw [ByteArray.size_append, zs_size]
    refine Ev.bind (exe_cut_eq (b ++ zs n) _ true (by rw [hz]; omega) (by omega) (by rw [pagesOf_length, tx_size]; omega)) ?_
    refine Ev.congr (fun k => if_pos (by rw [pagesOf_length, pagesOf_length, tx_size, hz]; omega)) ?_
    have h128 := repeat_zs 128 (by omega)
    rw [show ((128 : Nat) : Int) = 128 from rfl] at h128
    simp only [h128, Option.bind_some]
    refine Ev.bind (exe_cut_eq (zs 128) 15 true (by rw [zs_size]; omega) (by omega) (by omega)) ?_
    rw [last_page, pagesOf_length, tx_size]
    refine Ev.congr (fun k => if_pos (by rw [List.length_append, pagesOf_length, pagesOf_length, tx_size, hz]; simp only [List.length_cons, List.length_nil]; omega)) ?_
    exact Ev.now _
  · rw [if_neg hc]
    refine Ev.congr (fun k => if_neg hc) ?_
    have : chk l b c e = 1 := by unfold chk at *; split <;> simp_all
    rw [this]
    exact Ev.now _
end Go.Proofs.Ytgjhabeoaejcdaa.Q
