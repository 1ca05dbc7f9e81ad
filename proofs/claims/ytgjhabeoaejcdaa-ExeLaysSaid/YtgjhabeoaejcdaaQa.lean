import Derived.Test.YtgjhabeoaejcdaaPx8
/- The plain law of the program's pages, first part: numbers, bytes, zeros, pages. -/
namespace Go.Proofs.Ytgjhabeoaejcdaa.Q
open Go.RowKit Go.Proofs.Ytgjhabeoaejcdaa.P Go.Proofs.YtgjhabeoaejcdaaW.PrintWords Go.Proofs.YtgjhabeoaejcdaaW.PrintLast Go.Proofs.YtgjhabeoaejcdaaW.PrintMore

theorem str_append (a b : List Int) : strOfNums (a ++ b) = strOfNums a ++ strOfNums b := by
  apply ByteArray.ext
  rw [ByteArray.data_append]
  simp [strOfNums]
theorem str_nil : strOfNums [] = (⟨#[]⟩ : ByteArray) := rfl
theorem app_nil (a : ByteArray) : a ++ (⟨#[]⟩ : ByteArray) = a := by
  apply ByteArray.ext; rw [ByteArray.data_append]; simp
theorem nil_app (a : ByteArray) : (⟨#[]⟩ : ByteArray) ++ a = a := by
  apply ByteArray.ext; rw [ByteArray.data_append]; simp
theorem app_assoc (a b c : ByteArray) : a ++ b ++ c = a ++ (b ++ c) := by
  apply ByteArray.ext; simp only [ByteArray.data_append, Array.append_assoc]

/-- So many zeros. -/
def zs (n : Nat) : ByteArray := strOfNums (List.replicate n 0)
theorem zs_size (n : Nat) : (zs n).size = n := by rw [zs, strOfNums_size, List.length_replicate]
theorem zs_succ (n : Nat) : zs (n + 1) = (⟨#[0]⟩ : ByteArray) ++ zs n := by
  unfold zs; rw [show List.replicate (n + 1) (0 : Int) = [0] ++ List.replicate n 0 from rfl, str_append]; rfl
theorem repeat_zs (n : Nat) (h : n ≤ 140737488355328) : strings_Repeat.f (⟨#[0]⟩ : ByteArray) n = some (zs n) := by
  unfold strings_Repeat.f
  have h1 : (⟨#[0]⟩ : ByteArray).size = 1 := rfl
  rw [if_pos ⟨by omega, by omega, by rw [h1]; omega⟩]
  congr 1
  have : ∀ m, Lib.repeatL [0] m = List.replicate m 0 := by
    intro m
    induction m with
    | zero => rfl
    | succ m ih => simp [Lib.repeatL, ih, List.replicate_succ]
  show (⟨(Lib.repeatL [0] ((n : Int)).toNat).toArray⟩ : ByteArray) = _
  rw [this, Int.toNat_natCast]
  unfold zs strOfNums
  rw [List.map_replicate]
  rfl

theorem tdiv_nn {a b : Int} (h : 0 ≤ a) : Int.tdiv a b = a / b := Int.tdiv_eq_ediv_of_nonneg h
theorem tmod_nn {a b : Int} (h : 0 ≤ a) : Int.tmod a b = a % b := Int.tmod_eq_emod_of_nonneg h
/-- How many pages so many bytes need. -/
def pg (n : Nat) : Nat := (n + 127) / 128
theorem exe_pages_eq (n : Nat) (h : n ≤ 4611686018427387904) : exe_pages.f n = some (pg n : Int) := by
  unfold exe_pages.f pg
  rw [wrap64_id (n := (n : Int) + 128) (by omega) (by omega), wrap64_id (n := (n : Int) + 128 - 1) (by omega) (by omega), tdiv_nn (by omega), wrap64_id (by omega) (by omega)]
  rw [Option.some.injEq]; omega
theorem ref_pages_eq (n : Nat) (h : n ≤ 4611686018427387904) : hibernacleref12_pages.f n = some (pg n : Int) := by
  unfold hibernacleref12_pages.f pg
  rw [wrap64_id (n := (n : Int) + 127) (by omega) (by omega), tdiv_nn (by omega), wrap64_id (by omega) (by omega), Option.some.injEq]
  omega

theorem ref_put_loop (n : Nat) (hn : n ≤ 8) : ∀ (d i : Nat) (x : Int) (acc : ByteArray), i + d = n → acc.size = i → 0 ≤ x → x < 18446744073709551616 →
    Ev (fun k => hibernacleref01_Put.l0 k x n acc i) (acc ++ strOfNums (leNums x d)) := by
  intro d
  induction d with
  | zero =>
    intro i x acc hi ha h0 h1
    refine Ev.step (f := fun _ => some acc) (fun k => ?_) ?_
    · simp only [hibernacleref01_Put.l0]; rw [if_neg (by omega)]
    · rw [show leNums x 0 = [] from rfl, str_nil, app_nil]; exact Ev.now _
  | succ d ih =>
    intro i x acc hi ha h0 h1
    have ew : IntKind.u64.wrap (x / 256) = x / 256 := by rw [u64_wrap]; omega
    have e1 : wrap64 ((i : Int) + 1) = ((i + 1 : Nat) : Int) := by rw [wrap64_id (by omega) (by omega)]; omega
    have em : x % 256 % 256 = x % 256 := by omega
    refine Ev.step (f := fun k => hibernacleref01_Put.l0 k (x / 256) n (acc ++ strOfNums [x % 256]) ((i + 1 : Nat) : Int)) (fun k => ?_) ?_
    · simp only [hibernacleref01_Put.l0, Option.bind_some]
      rw [if_pos (by omega), if_pos (by omega), if_pos (by rw [strOfNums_size]; simp; omega), tdiv_nn h0, tmod_nn h0, ew, em, e1]
    · have := ih (i + 1) (x / 256) (acc ++ strOfNums [x % 256]) (by omega) (by rw [ByteArray.size_append, strOfNums_size, ha]; rfl) (by omega) (by omega)
      rw [show leNums x (d + 1) = [x % 256] ++ leNums (x / 256) d from rfl, str_append, ← app_assoc]
      exact this
theorem ref_put (n : Nat) (hn : n ≤ 8) (x : Int) (h0 : 0 ≤ x) (h1 : x < 18446744073709551616) : Ev (fun k => hibernacleref01_Put.f k x n) (strOfNums (leNums x n)) := by
  have := ref_put_loop n hn n 0 x ⟨#[]⟩ (by omega) rfl h0 h1
  rw [nil_app] at this
  exact this

theorem u64_nn (x : Int) : 0 ≤ IntKind.u64.wrap x ∧ IntKind.u64.wrap x < 18446744073709551616 := by rw [u64_wrap]; omega
theorem rd_nat (l : List Int) (i : Nat) : rd l (i : Int) = l.getD i 0 := by unfold rd; rw [Int.toNat_natCast]
theorem drop_getD (l : List Int) (i : Nat) (h : i < l.length) : l.drop i = l.getD i 0 :: l.drop (i + 1) := by
  rw [List.drop_eq_getElem_cons h, List.getD_eq_getElem?_getD, List.getElem?_eq_getElem h]; rfl

theorem ref_text_loop (l : List Int) (b : ByteArray) (c e : Int) (hl : l.length ≤ 100000) : ∀ (d i : Nat) (acc : ByteArray), i + d = l.length → acc.size = 4 * i →
    Ev (fun k => hibernacleref12_text.l0 k acc (l.length : Int) i l b c e) (acc ++ strOfNums (textNums (l.drop i))) := by
  intro d
  induction d with
  | zero =>
    intro i acc hi ha
    refine Ev.step (f := fun _ => some acc) (fun k => ?_) ?_
    · simp only [hibernacleref12_text.l0]; rw [if_neg (by omega)]
    · rw [List.drop_of_length_le (by omega), show textNums [] = [] from rfl, str_nil, app_nil]; exact Ev.now _
  | succ d ih =>
    intro i acc hi ha
    have e1 : wrap64 ((i : Int) + 1) = ((i + 1 : Nat) : Int) := by rw [wrap64_id (by omega) (by omega)]; omega
    have hp := ref_put 4 (by omega) (IntKind.u64.wrap (l.getD i 0)) (u64_nn _).1 (u64_nn _).2
    rw [leNums_u64] at hp
    have hs : (strOfNums (leNums (l.getD i 0) 4)).size = 4 := by rw [strOfNums_size, leNums_length]
    refine Ev.step (f := fun k => (hibernacleref01_Put.f k (IntKind.u64.wrap (l.getD i 0)) 4).bind fun t => if acc.size + t.size ≤ 9223372036854775807 then hibernacleref12_text.l0 k (acc ++ t) (l.length : Int) ((i + 1 : Nat) : Int) l b c e else none) (fun k => ?_) ?_
    · simp only [hibernacleref12_text.l0]
      rw [if_pos (by omega), if_pos (by omega), if_pos (by omega), rd_nat, e1]
    · refine Ev.bind hp ?_
      have := ih (i + 1) (acc ++ strOfNums (leNums (l.getD i 0) 4)) (by omega) (by rw [ByteArray.size_append, hs]; omega)
      rw [drop_getD l i (by omega), show textNums (l.getD i 0 :: l.drop (i + 1)) = leNums (l.getD i 0) 4 ++ textNums (l.drop (i + 1)) from rfl, str_append, ← app_assoc]
      simp only [hs]
      exact Ev.congr (fun k => if_pos (by omega)) this
/-- The words' bytes. -/
def tx (l : List Int) : ByteArray := strOfNums (textNums l)
theorem tx_size (l : List Int) : (tx l).size = 4 * l.length := by rw [tx, strOfNums_size, textNums_length]
theorem ref_text (l : List Int) (b : ByteArray) (c e : Int) (hl : l.length ≤ 100000) : Ev (fun k => hibernacleref12_text.f k l b c e) (tx l) := by
  have := ref_text_loop l b c e hl l.length 0 ⟨#[]⟩ (by omega) rfl
  rw [nil_app] at this
  exact this
theorem exe_text_eq (l : List Int) (hl : l.length ≤ 100000) : exe_text.f l = some (tx l) := by
  unfold exe_text.f; rw [if_pos (by omega)]; rfl

theorem ref_zeros_loop (n : Nat) (hn : n ≤ 1000000) : ∀ (d i : Nat) (acc : ByteArray), i + d = n → acc.size = i →
    Ev (fun k => hibernacleref12_zeros.l0 k n acc i) (acc ++ zs d) := by
  intro d
  induction d with
  | zero =>
    intro i acc hi ha
    refine Ev.step (f := fun _ => some acc) (fun k => ?_) ?_
    · simp only [hibernacleref12_zeros.l0]; rw [if_neg (by omega)]
    · rw [show zs 0 = (⟨#[]⟩ : ByteArray) from rfl, app_nil]; exact Ev.now _
  | succ d ih =>
    intro i acc hi ha
    have e1 : wrap64 ((i : Int) + 1) = ((i + 1 : Nat) : Int) := by rw [wrap64_id (by omega) (by omega)]; omega
    refine Ev.step (f := fun k => hibernacleref12_zeros.l0 k n (acc ++ (⟨#[0]⟩ : ByteArray)) ((i + 1 : Nat) : Int)) (fun k => ?_) ?_
    · simp only [hibernacleref12_zeros.l0]
      rw [if_pos (by omega), if_pos (by omega), e1]
    · have := ih (i + 1) (acc ++ (⟨#[0]⟩ : ByteArray)) (by omega) (by rw [ByteArray.size_append, ha]; rfl)
      rw [zs_succ, ← app_assoc]
      exact this
theorem ref_zeros (n : Nat) (hn : n ≤ 1000000) : Ev (fun k => hibernacleref12_zeros.f k n) (zs n) := by
  have := ref_zeros_loop n hn n 0 ⟨#[]⟩ (by omega) rfl
  rw [nil_app] at this
  exact this

end Go.Proofs.Ytgjhabeoaejcdaa.Q
