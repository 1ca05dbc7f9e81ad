import Derived.Test.YtgjhabeoaejcdaaPx0
import Derived.Test.YtgjhabeoaejcdaaPx7
import Derived.Test.YtgjhabeoaejcdaaPx10
import Derived.Test.YtgjhabeoaejcdaaPx18
import Derived.Test.YtgjhabeoaejcdaaPx19
import Derived.Test.YtgjhabeoaejcdaaQd
import Derived.Test.YtgjhabeoaejcdaaQbc
/- The plain law of what stands in a program's pages: ExePages. -/
namespace Go.Proofs.Ytgjhabeoaejcdaa.Q
open Go.RowKit Go.Proofs.Ytgjhabeoaejcdaa.P Go.Proofs.YtgjhabeoaejcdaaW.PrintWords Go.Proofs.YtgjhabeoaejcdaaW.PrintLast Go.Proofs.YtgjhabeoaejcdaaW.PrintMore

theorem extract_left (a c : ByteArray) (i j : Nat) (h : j ≤ a.size) : (a ++ c).extract i j = a.extract i j := by
  rw [ByteArray.extract_append, extract_none c _ _ (by omega), app_nil]
theorem extract_right (a c : ByteArray) (i j : Nat) : (a ++ c).extract (a.size + i) (a.size + j) = c.extract i j := by
  rw [ByteArray.extract_append, extract_none a _ _ (by omega), nil_app, Nat.add_sub_cancel_left, Nat.add_sub_cancel_left]
theorem extract_mid (a b c : ByteArray) : (a ++ (b ++ c)).extract a.size (a.size + b.size) = b := by
  have := extract_right a (b ++ c) 0 b.size
  rw [Nat.add_zero] at this
  rw [this, extract_left _ _ _ _ (Nat.le_refl _), extract_all _ _ (Nat.le_refl _)]
theorem extract_end (a c : ByteArray) : (a ++ c).extract a.size (a ++ c).size = c := by
  have := extract_right a c 0 c.size
  rw [Nat.add_zero] at this
  rw [ByteArray.size_append, this, extract_all _ _ (Nat.le_refl _)]
theorem extract_begin (a c : ByteArray) : (a ++ c).extract 0 a.size = a := by
  rw [extract_left _ _ _ _ (Nat.le_refl _), extract_all _ _ (Nat.le_refl _)]
theorem tx_append (a b : List Int) : tx (a ++ b) = tx a ++ tx b := by unfold tx; rw [textNums_append, str_append]
theorem tx_word (l : List Int) (i : Nat) (h : i < l.length) (r : ByteArray) : (tx l ++ r).extract (4 * i) (4 * i + 4) = le (l.getD i 0) 4 := by
  have e : tx l ++ r = tx (l.take i) ++ (le (l.getD i 0) 4 ++ (tx (l.drop (i + 1)) ++ r)) := by
    conv => lhs; rw [← List.take_append_drop i l, drop_getD l i h]
    rw [tx_append, show tx (l.getD i 0 :: l.drop (i + 1)) = le (l.getD i 0) 4 ++ tx (l.drop (i + 1)) from by unfold tx le; rw [← str_append]; rfl]
    simp only [app_assoc]
  have h1 : (tx (l.take i)).size = 4 * i := by rw [tx_size, List.length_take]; omega
  have := extract_mid (tx (l.take i)) (le (l.getD i 0) 4) (tx (l.drop (i + 1)) ++ r)
  rw [h1, le_size] at this
  rw [e, this]
theorem bt_zs (m i : Nat) : bt (zs m) (i : Int) = 0 := by
  rw [bt_getD]
  have : bytesOf (zs m) = List.replicate m 0 := bytesOf_str _ (by intro x hx; have := List.eq_of_mem_replicate hx; omega)
  rw [this, List.getD_eq_getElem?_getD]
  by_cases h : i < m
  · rw [List.getElem?_eq_getElem (by simpa using h)]; simp
  · rw [List.getElem?_eq_none (by simp; omega)]; rfl

/-- The bytes of those pages that may be written, or may not. -/
def catB (w : Bool) : List S33 → ByteArray
  | [] => ⟨#[]⟩
  | p :: ps => if p.f2 = w then p.f1 ++ catB w ps else catB w ps
theorem catB_append (w : Bool) (a b : List S33) : catB w (a ++ b) = catB w a ++ catB w b := by
  induction a with
  | nil => rw [List.nil_append, show catB w [] = (⟨#[]⟩ : ByteArray) from rfl, nil_app]
  | cons p a ih =>
    simp only [List.cons_append, catB, ih]
    split
    · rw [app_assoc]
    · rfl
theorem catB_pages (s : ByteArray) (at_ : Int) (wr : Bool) : catB wr (pagesOf s at_ wr) = s ++ zs (128 * pg s.size - s.size) := by
  have hp : pg s.size = (s.size + 127) / 128 := rfl
  have key : ∀ j, j ≤ pg s.size → catB wr ((List.range j).map fun (i : Nat) => (⟨at_ + (i : Nat), page s i, wr⟩ : S33)) = (s ++ zs (128 * pg s.size - s.size)).extract 0 (128 * j) := by
    intro j
    induction j with
    | zero => intro _; rw [extract_none _ _ _ (by omega)]; rfl
    | succ j ih =>
      intro hj
      rw [List.range_succ, List.map_append, catB_append, ih (by omega)]
      simp only [List.map_cons, List.map_nil, catB, if_true, app_nil]
      unfold page
      rw [ByteArray.extract_append_extract]
      congr 1 <;> omega
  have := key (pg s.size) (Nat.le_refl _)
  unfold pagesOf
  rw [this, extract_all _ _ (by rw [ByteArray.size_append, zs_size]; omega)]
theorem catB_none (s : ByteArray) (at_ : Int) (wr w : Bool) (h : wr ≠ w) : catB w (pagesOf s at_ wr) = ⟨#[]⟩ := by
  unfold pagesOf
  induction List.range (pg s.size) with
  | nil => rfl
  | cons i r ih => simp only [List.map_cons, catB]; rw [if_neg h]; exact ih
/-- The text's pages, and the others. -/
def tPages (l : List Int) : ByteArray := tx l ++ zs (128 * pg (4 * l.length) - 4 * l.length)
def dPages (b : ByteArray) (n : Nat) : ByteArray := b ++ zs (n + (128 * pg (b.size + n) - (b.size + n)) + 128)
theorem cat_text (l : List Int) (b : ByteArray) (n : Nat) : catB false (lays l b n) = tPages l := by
  unfold lays tPages
  rw [catB_append, catB_append, catB_pages, catB_none _ _ _ _ (by simp), tx_size]
  simp only [catB]
  rw [if_neg (by simp), app_nil, app_nil]
theorem cat_data (l : List Int) (b : ByteArray) (n : Nat) : catB true (lays l b n) = dPages b n := by
  unfold lays dPages
  rw [catB_append, catB_append, catB_pages, catB_none _ _ _ _ (by simp), nil_app]
  simp only [catB]
  rw [if_pos trivial, app_nil, app_assoc, app_assoc, ← zs_add, ← zs_add, ByteArray.size_append, zs_size]
  congr 2
theorem lays_get (l : List Int) (b : ByteArray) (n : Nat) (h14 : pg (4 * l.length) + pg (b.size + n) ≤ 14) (i : Nat) (h : i < (lays l b n).length) :
    ((lays l b n).getD i z33).f1.size = 128 ∧ (i + 1 < (lays l b n).length → ((lays l b n).getD i z33).f0 = i) ∧ (i + 1 = (lays l b n).length → ((lays l b n).getD i z33).f0 = 15) ∧ (lays l b n).length ≤ 15 := by
  have hz : (b ++ zs n).size = b.size + n := by rw [ByteArray.size_append, zs_size]
  have hlen : (lays l b n).length = pg (4 * l.length) + pg (b.size + n) + 1 := by
    unfold lays
    simp only [List.length_append, pagesOf_length, tx_size, hz, List.length_cons, List.length_nil]
  have pget : ∀ (s : ByteArray) (a : Int) (wr : Bool) (j : Nat), j < pg s.size → (pagesOf s a wr)[j]? = some ⟨a + (j : Nat), page s j, wr⟩ := by
    intro s a wr j hj
    unfold pagesOf
    rw [List.getElem?_map, List.getElem?_range hj]
    rfl
  rw [hlen] at h ⊢
  rw [List.getD_eq_getElem?_getD]
  unfold lays
  by_cases h1 : i < pg (4 * l.length)
  · rw [List.append_assoc, List.getElem?_append_left (by rw [pagesOf_length, tx_size]; omega), pget _ _ _ _ (by rw [tx_size]; omega)]
    exact ⟨page_size _ _ (by rw [tx_size]; omega), fun _ => by simp, fun _ => by omega, by omega⟩
  by_cases h2 : i < pg (4 * l.length) + pg (b.size + n)
  · rw [List.append_assoc, List.getElem?_append_right (by rw [pagesOf_length, tx_size]; omega), List.getElem?_append_left (by rw [pagesOf_length, pagesOf_length, tx_size, hz]; omega),
      pget _ _ _ _ (by rw [pagesOf_length, tx_size, hz]; omega), pagesOf_length, tx_size]
    exact ⟨page_size _ _ (by rw [hz]; omega), fun _ => by simp; omega, fun _ => by omega, by omega⟩
  · rw [List.getElem?_append_right (by rw [List.length_append, pagesOf_length, pagesOf_length, tx_size, hz]; omega), List.length_append, pagesOf_length, pagesOf_length, tx_size, hz,
      show i - (pg (4 * l.length) + pg (b.size + n)) = 0 by omega]
    exact ⟨by simp [zs_size], fun _ => by omega, fun _ => by simp, by omega⟩

section
variable (l : List Int) (b : ByteArray) (c e : Int)
/-- What is asked behind the pages. -/
def fin (k : Nat) (x5 x6 : ByteArray) : Option Bool :=
  if (x5.size : Int) < (wrap64 (4 * (l.length : Int))) then (hibernaclelaw12_ExePages.j3 k x5 x6 true l b c e) else (if (x5.size : Int) ≥ (wrap64 ((wrap64 (4 * (l.length : Int))) + 128)) then (hibernaclelaw12_ExePages.j3 k x5 x6 true l b c e) else (hibernaclelaw12_ExePages.j3 k x5 x6 (decide ((x6.size : Int) < (wrap64 ((wrap64 ((b.size : Int) + c)) + 128)))) l b c e))
theorem zeros_loop (m : Nat) (hm : m ≤ 1000000) : ∀ (d i : Nat), i + d = m → Ev (fun k => hibernaclelaw12_ExePages.l2 k (zs m) i) true := by
  intro d
  induction d with
  | zero =>
    intro i hi
    refine Ev.step (f := fun k => (hibernaclelaw12_awake.f k).bind fun t => some t) (fun k => ?_) (Ev.bind awake_ev (Ev.now _))
    simp only [hibernaclelaw12_ExePages.l2]; rw [if_neg (by rw [zs_size]; omega)]
  | succ d ih =>
    intro i hi
    have e1 : wrap64 ((i : Int) + 1) = ((i + 1 : Nat) : Int) := by rw [wrap64_id (by omega) (by omega)]; omega
    refine Ev.step (f := fun k => hibernaclelaw12_ExePages.l2 k (zs m) ((i + 1 : Nat) : Int)) (fun k => ?_) (ih (i + 1) (by omega))
    simp only [hibernaclelaw12_ExePages.l2]
    rw [if_pos (by rw [zs_size]; omega), if_pos (by omega), if_pos (bt_zs m i), e1]
theorem words_loop (n : Nat) (hl : l.length ≤ 1000) (hw : ∀ x ∈ l, 0 ≤ x ∧ x < 4294967296) (hb : b.size ≤ 10000) (hn : n ≤ 10000) : ∀ (d i : Nat), i + d = l.length →
    Ev (fun k => hibernaclelaw12_ExePages.l1 k (tPages l) (dPages b n) i l b c e) true := by
  have hT : (tPages l).size = 4 * l.length + (128 * pg (4 * l.length) - 4 * l.length) := by unfold tPages; rw [ByteArray.size_append, tx_size, zs_size]
  have hD : (dPages b n).size = b.size + (n + (128 * pg (b.size + n) - (b.size + n)) + 128) := by unfold dPages; rw [ByteArray.size_append, zs_size]
  have p1 : pg (4 * l.length) ≤ 100 := by unfold pg; omega
  have p2 : pg (b.size + n) ≤ 1000 := by unfold pg; omega
  intro d
  induction d with
  | zero =>
    intro i hi
    have e4 : wrap64 (4 * (l.length : Int)) = ((4 * l.length : Nat) : Int) := by rw [wrap64_id (by omega) (by omega)]; omega
    have r1 : (tPages l).extract (4 * l.length) (tPages l).size = zs (128 * pg (4 * l.length) - 4 * l.length) := by
      have := extract_end (tx l) (zs (128 * pg (4 * l.length) - 4 * l.length))
      rw [tx_size] at this
      exact this
    have r2 : (dPages b n).extract b.size (dPages b n).size = zs (n + (128 * pg (b.size + n) - (b.size + n)) + 128) := extract_end b _
    have r3 : (dPages b n).extract 0 b.size = b := extract_begin b _
    refine Ev.step (f := fun k => hibernaclelaw12_ExePages.l2 k (zs (128 * pg (4 * l.length) - 4 * l.length + (n + (128 * pg (b.size + n) - (b.size + n)) + 128))) 0) (fun k => ?_) (zeros_loop _ (by omega) _ 0 (Nat.zero_add _))
    simp only [hibernaclelaw12_ExePages.l1, e4, Int.toNat_natCast, r1, r2, r3]
    rw [if_neg (by omega), if_pos (by omega), if_pos (by omega), if_pos trivial, if_pos (by omega), if_pos (by omega), if_pos (by rw [zs_size, zs_size]; omega), ← zs_add]
  | succ d ih =>
    intro i hi
    clear hD p2
    have e1 : wrap64 ((i : Int) + 1) = ((i + 1 : Nat) : Int) := by rw [wrap64_id (by omega) (by omega)]; omega
    have e4 : wrap64 (4 * (i : Int)) = ((4 * i : Nat) : Int) := by rw [wrap64_id (by omega) (by omega)]; omega
    have e5 : wrap64 (((4 * i : Nat) : Int) + 4) = ((4 * i + 4 : Nat) : Int) := by rw [wrap64_id (by omega) (by omega)]; omega
    have hx : 0 ≤ l.getD i 0 ∧ l.getD i 0 < 4294967296 := by
      rw [List.getD_eq_getElem?_getD, List.getElem?_eq_getElem (by omega)]
      exact hw _ (List.getElem_mem _)
    have hg := num_get (le (l.getD i 0) 4) (by rw [le_size]; omega)
    rw [bytesOf_le, ofB_le4, Int.emod_eq_of_lt hx.1 hx.2] at hg
    refine Ev.step (f := fun k => (num_Get.f k (le (l.getD i 0) 4)).bind fun t => if t = l.getD i 0 then hibernaclelaw12_ExePages.l1 k (tPages l) (dPages b n) ((i + 1 : Nat) : Int) l b c e else some false) (fun k => ?_) ?_
    · simp only [hibernaclelaw12_ExePages.l1, e4, e5, e1, Int.toNat_natCast, rd_nat]
      rw [if_pos (by omega), if_pos (by omega), if_pos (by omega), if_pos (by omega), show (tPages l).extract (4 * i) (4 * i + 4) = le (l.getD i 0) 4 from tx_word l i (by omega) _, u64_same hx.1 (by omega)]
      congr 1
    · refine Ev.bind hg ?_
      refine Ev.congr (fun k => if_pos rfl) (ih (i + 1) (by omega))
theorem fin_ev (n : Nat) (hc : c = n) (hl : l.length ≤ 1000) (hw : ∀ x ∈ l, 0 ≤ x ∧ x < 4294967296) (hb : b.size ≤ 10000) (hn : n ≤ 10000) : Ev (fun k => fin l b c e k (tPages l) (dPages b n)) true := by
  have hT : (tPages l).size = 4 * l.length + (128 * pg (4 * l.length) - 4 * l.length) := by unfold tPages; rw [ByteArray.size_append, tx_size, zs_size]
  have hD : (dPages b n).size = b.size + (n + (128 * pg (b.size + n) - (b.size + n)) + 128) := by unfold dPages; rw [ByteArray.size_append, zs_size]
  have p1 : pg (4 * l.length) = (4 * l.length + 127) / 128 := rfl
  have p2 : pg (b.size + n) ≤ 1000 := by unfold pg; omega
  subst hc
  unfold fin
  rw [wrap64_id (n := 4 * (l.length : Int)) (by omega) (by omega), wrap64_id (n := 4 * (l.length : Int) + 128) (by omega) (by omega), wrap64_id (n := (b.size : Int) + (n : Int)) (by omega) (by omega), wrap64_id (n := (b.size : Int) + (n : Int) + 128) (by omega) (by omega)]
  refine Ev.congr (fun k => if_neg (by omega)) ?_
  refine Ev.congr (fun k => if_neg (by omega)) ?_
  rw [decide_eq_false (by omega)]
  refine Ev.step (f := fun k => hibernaclelaw12_ExePages.l1 k (tPages l) (dPages b n) 0 l b (n : Int) e) (fun k => ?_) (words_loop l b (n : Int) e n hl hw hb hn _ 0 (Nat.zero_add _))
  simp only [hibernaclelaw12_ExePages.j3]
  rw [if_neg (by simp)]
theorem pages_loop (L : List S33) (hL : L.length ≤ 15) (h1 : ∀ i, i < L.length → (L.getD i z33).f1.size = 128) (h0 : ∀ i, i + 1 < L.length → (L.getD i z33).f0 < (L.getD (i + 1) z33).f0)
    (hf : Ev (fun k => fin l b c e k (catB false L) (catB true L)) true) : ∀ (d i : Nat) (x5 x6 : ByteArray), i + d = L.length → x5.size ≤ 128 * i → x6.size ≤ 128 * i →
    x5 ++ catB false (L.drop i) = catB false L → x6 ++ catB true (L.drop i) = catB true L → Ev (fun k => hibernaclelaw12_ExePages.l0 k L x5 x6 i l b c e) true := by
  intro d
  induction d with
  | zero =>
    intro i x5 x6 hi s5 s6 c5 c6
    rw [List.drop_of_length_le (by omega), show ∀ w, catB w [] = (⟨#[]⟩ : ByteArray) from fun _ => rfl, app_nil] at c5 c6
    subst c5 c6
    refine Ev.step (f := fun k => fin l b c e k (catB false L) (catB true L)) (fun k => ?_) hf
    simp only [hibernaclelaw12_ExePages.l0]; rw [if_neg (by omega)]; rfl
  | succ d ih =>
    intro i x5 x6 hi s5 s6 c5 c6
    have e1 : wrap64 ((i : Int) + 1) = ((i + 1 : Nat) : Int) := by rw [wrap64_id (by omega) (by omega)]; omega
    have er : ∀ j : Nat, rd_T33 L (j : Int) = L.getD j z33 := fun j => by unfold rd_T33; rw [Int.toNat_natCast]
    have ed : L.drop i = L.getD i z33 :: L.drop (i + 1) := by
      rw [List.drop_eq_getElem_cons (by omega), List.getD_eq_getElem?_getD, List.getElem?_eq_getElem (by omega)]; rfl
    have hs := h1 i (by omega)
    have step : Ev (fun k => hibernaclelaw12_ExePages.j2 k L x5 x6 i false l b c e) true := by
      rw [ed] at c5 c6
      simp only [catB] at c5 c6
      by_cases hw : (L.getD i z33).f2 = true
      · refine Ev.step (f := fun k => hibernaclelaw12_ExePages.l0 k L x5 (x6 ++ (L.getD i z33).f1) ((i + 1 : Nat) : Int) l b c e) (fun k => ?_) (ih (i + 1) _ _ (by omega) (by omega) (by rw [ByteArray.size_append]; omega) ?_ ?_)
        · simp only [hibernaclelaw12_ExePages.j2, er, e1]
          rw [if_neg (by simp), if_pos (by omega), if_pos (by omega), if_pos hw, if_pos (by omega)]
        · rw [if_neg (by rw [hw]; simp)] at c5; exact c5
        · rw [if_pos hw] at c6; rw [app_assoc]; exact c6
      · refine Ev.step (f := fun k => hibernaclelaw12_ExePages.l0 k L (x5 ++ (L.getD i z33).f1) x6 ((i + 1 : Nat) : Int) l b c e) (fun k => ?_) (ih (i + 1) _ _ (by omega) (by rw [ByteArray.size_append]; omega) (by omega) ?_ ?_)
        · simp only [hibernaclelaw12_ExePages.j2, er, e1]
          rw [if_neg (by simp), if_pos (by omega), if_pos (by omega), if_neg hw, if_pos (by omega)]
        · rw [if_pos (by simpa using hw)] at c5; rw [app_assoc]; exact c5
        · rw [if_neg hw] at c6; exact c6
    by_cases hz : i = 0
    · subst hz
      refine Ev.step (f := fun k => hibernaclelaw12_ExePages.j2 k L x5 x6 ((0 : Nat) : Int) false l b c e) (fun k => ?_) step
      simp only [hibernaclelaw12_ExePages.l0, er]
      rw [if_pos (by omega), if_pos (by omega), if_pos (by rw [hs]; rfl), if_neg (by omega)]
    · obtain ⟨j, rfl⟩ : ∃ j, i = j + 1 := ⟨i - 1, by omega⟩
      have em : wrap64 (((j + 1 : Nat) : Int) - 1) = (j : Int) := by rw [wrap64_id (by omega) (by omega)]; omega
      have hlt := h0 j (by omega)
      refine Ev.step (f := fun k => hibernaclelaw12_ExePages.j2 k L x5 x6 ((j + 1 : Nat) : Int) false l b c e) (fun k => ?_) step
      simp only [hibernaclelaw12_ExePages.l0, em, er]
      rw [if_pos (by omega), if_pos (by omega), if_pos (by rw [hs]; rfl), if_pos (by omega), if_pos (by omega), if_pos (by omega), decide_eq_false (by omega)]
end
theorem ExePages_ev (l : List Int) (b : ByteArray) (c e : Int) (hw : ∀ x ∈ l, 0 ≤ x ∧ x < 4294967296) (he0 : 0 ≤ e) (he1 : e < 4294967296) : Ev (fun k => hibernaclelaw12_ExePages.f k l b c e) true := by
  have off : Ev (fun k => hibernaclelaw12_ExePages.j0 k true l b c e) true :=
    Ev.step (f := fun k => (hibernaclelaw12_awake.f k).bind fun t => some t) (fun k => by simp only [hibernaclelaw12_ExePages.j0]; rw [if_pos trivial]) (Ev.bind awake_ev (Ev.now _))
  unfold hibernaclelaw12_ExePages.f
  simp only [great_eq, Option.bind_some]
  by_cases hg : l.length > 600 ∨ b.size > 3000
  · exact Ev.congr (fun k => if_pos (decide_eq_true hg)) off
  · refine Ev.congr (fun k => if_neg (by simpa using hg)) ?_
    refine Ev.bind (ref_check l b c e (by omega) he0 he1) ?_
    by_cases hc : chk l b c e = 0
    · have H := chk_bounds hc
      have hp := H.2.2.2.2.2.2
      have hlay := exe_lay l b c e (by omega) he0
      rw [if_pos hc] at hlay
      obtain ⟨n, rfl⟩ := Int.eq_ofNat_of_zero_le H.2.2.1
      rw [Int.toNat_natCast] at hp hlay
      have hget := lays_get l b n hp
      rw [hc]
      refine Ev.step (f := fun k => (exe_Lay.f k l b n e).bind fun bt => if bt.2 = 0 then hibernaclelaw12_ExePages.l0 k bt.1 (⟨#[]⟩ : ByteArray) (⟨#[]⟩ : ByteArray) 0 l b n e else some false) (fun k => ?_) (Ev.bind hlay (Ev.congr (fun k => if_pos rfl) ?_))
      · simp only [hibernaclelaw12_ExePages.j0]
        rw [if_neg (by simp)]
      have hpos : 0 < (lays l b n).length := by unfold lays; simp only [List.length_append, List.length_cons]; omega
      refine pages_loop l b n e (lays l b n) (hget 0 hpos).2.2.2 (fun i hi => (hget i hi).1) (fun i hi => ?_) ?_ _ 0 _ _ (Nat.zero_add _) (by decide) (by decide) (nil_app _) (nil_app _)
      · have g1 := (hget i (by omega)).2.1 hi
        have g2 := hget (i + 1) hi
        by_cases hlast : i + 1 + 1 = (lays l b n).length
        · rw [g1, g2.2.2.1 hlast]; have := g2.2.2.2; omega
        · rw [g1, g2.2.1 (by omega)]; omega
      · rw [cat_text, cat_data]
        exact fin_ev l b n e n rfl (by omega) hw (by omega) (by omega)
    · have : chk l b c e = 1 := by unfold chk at *; split <;> simp_all
      rw [this]
      exact off
end Go.Proofs.Ytgjhabeoaejcdaa.Q
