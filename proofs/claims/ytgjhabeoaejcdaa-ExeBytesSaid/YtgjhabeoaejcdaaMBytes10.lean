-- Printed for this claim and put together by wip/tools/prune.py.
import Derived.Laws.Strings
import Derived.Test.YtgjhabeoaejcdaaMBytes2
import Derived.Test.YtgjhabeoaejcdaaMBytes5
import Derived.Test.YtgjhabeoaejcdaaMBytes6
import Derived.Test.YtgjhabeoaejcdaaMBytes7
import Derived.Test.YtgjhabeoaejcdaaMBytes8
import Derived.Test.YtgjhabeoaejcdaaMBytes9
set_option linter.unusedVariables false
set_option linter.unusedSimpArgs false
section
namespace Go.Proofs.Ytgjhabeoaejcdaa.Q
open Go.RowKit Go.Proofs.Ytgjhabeoaejcdaa.P Go.Proofs.YtgjhabeoaejcdaaW.PrintWords Go.Proofs.YtgjhabeoaejcdaaW.PrintLast Go.Proofs.YtgjhabeoaejcdaaW.PrintMore
theorem ref_pages_eq (n : Nat) (h : n ≤ 4611686018427387904) : hibernacleref12_pages.f n = some (pg n : Int) := by
  unfold hibernacleref12_pages.f pg
  rw [wrap64_id (n := (n : Int) + 127) (by omega) (by omega), tdiv_nn (by omega), wrap64_id (by omega) (by omega), Option.some.injEq]
  omega
theorem ref_check_last (l : List Int) (b : ByteArray) (c e : Int) (n : Nat) (t : Bool) (hn : n ≤ 1000) (hb : b.size ≤ 1000000000) (hc0 : 0 ≤ c) (hc1 : c ≤ 1000000000) (h : t = false) (r : Int)
    (hr : (if pg (4 * n) + pg (b.size + c.toNat) ≤ 14 then (0 : Int) else 1) = r) : Ev (fun k => hibernacleref12_Check.j0 k n t l b c e) r := by
  subst h
  refine Ev.step (f := fun _ => some r) (fun k => ?_) (Ev.now _)
  simp only [hibernacleref12_Check.j0]
  have e1 : 4 * (n : Int) = ((4 * n : Nat) : Int) := by omega
  have e2 : (b.size : Int) + c = ((b.size + c.toNat : Nat) : Int) := by omega
  have p1 : pg (4 * n) ≤ 1000 := by unfold pg; omega
  have p2 : pg (b.size + c.toNat) ≤ 100000000 := by unfold pg; omega
  rw [if_neg (by simp), wrap64_id (n := 4 * (n : Int)) (by omega) (by omega), e1, ref_pages_eq _ (by omega), Option.bind_some, wrap64_id (n := (b.size : Int) + c) (by omega) (by omega), e2, ref_pages_eq _ (by omega), Option.bind_some,
    wrap64_id (n := (pg (4 * n) : Int) + (pg (b.size + c.toNat) : Int)) (by omega) (by omega)]
  rw [← hr]
  by_cases h7 : pg (4 * n) + pg (b.size + c.toNat) ≤ 14
  · rw [if_neg (by omega), if_pos h7]
  · rw [if_pos (by omega), if_neg h7]
theorem ref_check_bad (l : List Int) (b : ByteArray) (c e : Int) (n : Int) : Ev (fun k => hibernacleref12_Check.j0 k n true l b c e) 1 :=
  Ev.step (f := fun _ => some 1) (fun k => by simp only [hibernacleref12_Check.j0]; rw [if_pos trivial]) (Ev.now _)
theorem ref_check (l : List Int) (b : ByteArray) (c e : Int) (hb : b.size ≤ 1000000000) (he0 : 0 ≤ e) (he1 : e < 4294967296) : Ev (fun k => hibernacleref12_Check.f k l b c e) (chk l b c e) := by
  unfold hibernacleref12_Check.f chk
  by_cases h1 : l.length < 1
  · rw [if_neg (by omega)]
    exact Ev.congr (fun k => if_pos (by omega)) (ref_check_bad ..)
  refine Ev.congr (fun k => if_neg (by omega)) ?_
  by_cases h2 : 448 < l.length
  · rw [if_neg (by omega)]
    exact Ev.congr (fun k => if_pos (by omega)) (ref_check_bad ..)
  refine Ev.congr (fun k => if_neg (by omega)) ?_
  by_cases h3 : c < 0
  · rw [if_neg (by omega)]
    exact Ev.congr (fun k => if_pos (by omega)) (ref_check_bad ..)
  refine Ev.congr (fun k => if_neg (by omega)) ?_
  by_cases h4 : 2048 < c
  · rw [if_neg (by omega)]
    exact Ev.congr (fun k => if_pos (by omega)) (ref_check_bad ..)
  refine Ev.congr (fun k => if_neg (by omega)) ?_
  by_cases h5 : 2048 < b.size
  · rw [if_neg (by unfold pg; omega)]
    exact Ev.congr (fun k => if_pos (by omega)) (ref_check_bad ..)
  refine Ev.congr (fun k => if_neg (by omega)) ?_
  by_cases h6 : e % 4 = 0
  · refine Ev.congr (fun k => if_pos (by rw [tmod_nn he0]; exact h6)) ?_
    rw [wrap64_id (n := e) (by omega) (by omega), wrap64_id (n := 4 * (l.length : Int)) (by omega) (by omega)]
    by_cases h7 : e < 4 * (l.length : Int)
    · refine ref_check_last l b c e l.length _ (by omega) hb (by omega) (by omega) (by simp; omega) _ ?_
      by_cases h8 : pg (4 * l.length) + pg (b.size + c.toNat) ≤ 14
      · rw [if_pos h8, if_pos ⟨by omega, by omega, by omega, by unfold pg at h8; omega, h6, h7, h8⟩]
      · rw [if_neg h8, if_neg (by omega)]
    · rw [if_neg (by omega), show decide (e ≥ 4 * (l.length : Int)) = true from decide_eq_true (by omega)]
      exact ref_check_bad ..
  · rw [if_neg (by omega)]
    exact Ev.congr (fun k => if_neg (by rw [tmod_nn he0]; exact h6)) (ref_check_bad ..)
end Go.Proofs.Ytgjhabeoaejcdaa.Q
end
section
namespace Go.Proofs.Ytgjhabeoaejcdaa.P
open Go.RowKit Go.Proofs.YtgjhabeoaejcdaaW.PrintWords Go.Proofs.YtgjhabeoaejcdaaW.PrintLast Go.Proofs.YtgjhabeoaejcdaaW.PrintMore
attribute [local go_sem] max2_int min2_int max_two min_two max_three min_three max_four min_four
set_option linter.unusedVariables false
set_option linter.unusedSimpArgs false
def hibernacleref12_zeros.l0 : Nat → Int → ByteArray → Int → Option (ByteArray)
  | 0, _, _, _ => none
  | k + 1, x0, x3, x4 => if x4 < x0 then (if x3.size + 1 ≤ 9223372036854775807 then (hibernacleref12_zeros.l0 k x0 (x3 ++ (⟨#[0]⟩ : ByteArray)) (wrap64 (x4 + 1))) else (none)) else (some x3)
def hibernacleref12_zeros.f (k : Nat) (a0 : Int) : Option (ByteArray) := hibernacleref12_zeros.l0 k a0 (⟨#[]⟩ : ByteArray) 0
theorem hibernacleref12_zeros.mono_l : ∀ k, (∀ y0 y1 y2, LeO (hibernacleref12_zeros.l0 k y0 y1 y2) (hibernacleref12_zeros.l0 (k + 1) y0 y1 y2))
  | 0 => fun _ _ _ r h => by simp [hibernacleref12_zeros.l0] at h
  | k + 1 => by
    have ih0 := hibernacleref12_zeros.mono_l k
    · intro y0 y1 y2
      unfold hibernacleref12_zeros.l0
      repeat' first
      | (with_reducible exact ih0 _ _ _)
      | (with_reducible exact LeO.refl _)
      | (with_reducible exact LeO.none _)
      | (with_reducible refine LeO.ite ?_ ?_)
      | (with_reducible refine LeO.bind ?_ (fun _ => ?_))
      | exact ih0 _ _ _
      | exact LeO.none _
      | refine LeO.ite ?_ ?_
      | refine LeO.bind ?_ (fun _ => ?_)
theorem hibernacleref12_zeros.mono : ∀ a0 k, LeO (hibernacleref12_zeros.f k a0) (hibernacleref12_zeros.f (k + 1) a0) := by
  intro a0 k
  have ih0 := hibernacleref12_zeros.mono_l k
  unfold hibernacleref12_zeros.f
  repeat' first
      | (with_reducible exact ih0 _ _ _)
      | (with_reducible exact LeO.refl _)
      | (with_reducible exact LeO.none _)
      | (with_reducible refine LeO.ite ?_ ?_)
      | (with_reducible refine LeO.bind ?_ (fun _ => ?_))
      | exact ih0 _ _ _
      | exact LeO.none _
      | refine LeO.ite ?_ ?_
      | refine LeO.bind ?_ (fun _ => ?_)
set_option maxHeartbeats 8000000 in
set_option maxRecDepth 100000 in
theorem hibernacleref12_zeros.calls (k : Nat) (a0 : Int) (r : ByteArray) (w : World) (h : hibernacleref12_zeros.f k a0 = some r) :
    Calls Try.prog 29 #[.int .i64 a0] w fun e w' => e = .returned (.string r) ∧ Drawn0 w w' := by
  have H : (hibernacleref12_zeros.l0 k a0 (⟨#[]⟩ : ByteArray) 0) = some r := h
  clear h
  have H' := Aside0.mk H
  clear H
  go_enter Try.func29, Try.ntmps29
  go_wp2
  go_loopg [3, 4] k (fun kq v3 v4 w' => ∃ (x3_1 : ByteArray) (x4_1 : Int), v3 = .string x3_1 ∧ v4 = .int .i64 x4_1 ∧ Aside0 (hibernacleref12_zeros.l0 kq a0 x3_1 x4_1 = some r) ∧ Aside0 (kq ≤ k) ∧ Drawn0 w w')
  case atStart => exact ⟨((⟨#[]⟩ : ByteArray)), (0), (by first | rfl | (simp; done) | (simp [*]; done)), (by first | rfl | (simp; done) | (simp [*]; done)), H', ⟨Nat.le_refl _⟩, by repeat (first | exact Drawn0.refl _ | apply Drawn0.step)⟩
  case round =>
    clear H'
    obtain ⟨x3_1, x4_1, rfl, rfl, HA, HK1, ⟨m1, rfl⟩⟩ := hrel
    cases gk with
    | zero => exact absurd HA.out (by simp [hibernacleref12_zeros.l0])
    | succ k1 =>
      have H := HA.out
      clear HA
      simp only [hibernacleref12_zeros.l0] at H
      by_cases c2 : x4_1 < a0
      · rw [if_pos c2] at H
        have c2b0 : decide (x4_1 < a0) = true := decide_eq_true c2
        clear c2
        by_cases c3 : x3_1.size + 1 ≤ 9223372036854775807
        · rw [if_pos c3] at H
          have c3b0 := eq_true c3
          have c3b1 : decide (x3_1.size + 1 ≤ 9223372036854775807) = true := decide_eq_true c3
          try have c3b2 : (9223372036854775807 < x3_1.size + 1) = False := eq_false (Nat.not_lt.2 c3)
          have H' := Aside0.mk H
          clear H
          go_wp2
          go_roundg k1
          case measure => have := HK1.out; omega
          case rel => exact ⟨(x3_1 ++ (⟨#[0]⟩ : ByteArray)), (wrap64 (x4_1 + 1)), (by first | rfl | (simp; done) | (simp [*]; done)), (by first | rfl | (simp; done) | (simp [*]; done)), H', ⟨by have := HK1.out; omega⟩, by repeat (first | exact Drawn0.refl _ | apply Drawn0.step)⟩
        · rw [if_neg c3] at H
          exact absurd H (by simp)
      · rw [if_neg c2] at H
        have c2b0 : decide (x4_1 < a0) = false := decide_eq_false c2
        clear c2
        obtain rfl := Option.some.inj H
        go_wp2
        go_ret
        exact ⟨by first | rfl | (simp; done) | (simp [*]; done), by repeat (first | exact Drawn0.refl _ | apply Drawn0.step)⟩
end Go.Proofs.Ytgjhabeoaejcdaa.P
end
section
namespace Go.Proofs.Ytgjhabeoaejcdaa.Q
open Go.RowKit Go.Proofs.Ytgjhabeoaejcdaa.P Go.Proofs.YtgjhabeoaejcdaaW.PrintWords Go.Proofs.YtgjhabeoaejcdaaW.PrintLast Go.Proofs.YtgjhabeoaejcdaaW.PrintMore
theorem ref_put_loop (n : Nat) (hn : n ≤ 8) : ∀ (d i : Nat) (x : Int) (acc : ByteArray), i + d = n → acc.size = i → 0 ≤ x → x < 18446744073709551616 →
    Ev (fun k => hibernacleref01_Put.l0 k x n acc i) (acc ++ strOfNums (leNums x d)) := by
  intro d
  induction d with
  | zero =>
    intro i x acc hi ha h0 h1
    refine Ev.step (f := fun _ => some acc) (fun k => ?_) ?_
    · simp only [hibernacleref01_Put.l0]; rw [if_neg (by omega)]
    · rw [show leNums x 0 = [] from rfl, str_nil, app_nil]; exact Ev.now _
  | succ d ih =>
    intro i x acc hi ha h0 h1
    have ew : IntKind.u64.wrap (x / 256) = x / 256 := by rw [u64_wrap]; omega
    have e1 : wrap64 ((i : Int) + 1) = ((i + 1 : Nat) : Int) := by rw [wrap64_id (by omega) (by omega)]; omega
    have em : x % 256 % 256 = x % 256 := by omega
    refine Ev.step (f := fun k => hibernacleref01_Put.l0 k (x / 256) n (acc ++ strOfNums [x % 256]) ((i + 1 : Nat) : Int)) (fun k => ?_) ?_
    · simp only [hibernacleref01_Put.l0, Option.bind_some]
      rw [if_pos (by omega), if_pos (by omega), if_pos (by rw [strOfNums_size]; simp; omega), tdiv_nn h0, tmod_nn h0, ew, em, e1]
    · have := ih (i + 1) (x / 256) (acc ++ strOfNums [x % 256]) (by omega) (by rw [ByteArray.size_append, strOfNums_size, ha]; rfl) (by omega) (by omega)
      rw [show leNums x (d + 1) = [x % 256] ++ leNums (x / 256) d from rfl, str_append, ← app_assoc]
      exact this
theorem ref_put (n : Nat) (hn : n ≤ 8) (x : Int) (h0 : 0 ≤ x) (h1 : x < 18446744073709551616) : Ev (fun k => hibernacleref01_Put.f k x n) (strOfNums (leNums x n)) := by
  have := ref_put_loop n hn n 0 x ⟨#[]⟩ (by omega) rfl h0 h1
  rw [nil_app] at this
  exact this
theorem ref_text_loop (l : List Int) (b : ByteArray) (c e : Int) (hl : l.length ≤ 100000) : ∀ (d i : Nat) (acc : ByteArray), i + d = l.length → acc.size = 4 * i →
    Ev (fun k => hibernacleref12_text.l0 k acc (l.length : Int) i l b c e) (acc ++ strOfNums (textNums (l.drop i))) := by
  intro d
  induction d with
  | zero =>
    intro i acc hi ha
    refine Ev.step (f := fun _ => some acc) (fun k => ?_) ?_
    · simp only [hibernacleref12_text.l0]; rw [if_neg (by omega)]
    · rw [List.drop_of_length_le (by omega), show textNums [] = [] from rfl, str_nil, app_nil]; exact Ev.now _
  | succ d ih =>
    intro i acc hi ha
    have e1 : wrap64 ((i : Int) + 1) = ((i + 1 : Nat) : Int) := by rw [wrap64_id (by omega) (by omega)]; omega
    have hp := ref_put 4 (by omega) (IntKind.u64.wrap (l.getD i 0)) (u64_nn _).1 (u64_nn _).2
    rw [leNums_u64] at hp
    have hs : (strOfNums (leNums (l.getD i 0) 4)).size = 4 := by rw [strOfNums_size, leNums_length]
    refine Ev.step (f := fun k => (hibernacleref01_Put.f k (IntKind.u64.wrap (l.getD i 0)) 4).bind fun t => if acc.size + t.size ≤ 9223372036854775807 then hibernacleref12_text.l0 k (acc ++ t) (l.length : Int) ((i + 1 : Nat) : Int) l b c e else none) (fun k => ?_) ?_
    · simp only [hibernacleref12_text.l0]
      rw [if_pos (by omega), if_pos (by omega), if_pos (by omega), rd_nat, e1]
    · refine Ev.bind hp ?_
      have := ih (i + 1) (acc ++ strOfNums (leNums (l.getD i 0) 4)) (by omega) (by rw [ByteArray.size_append, hs]; omega)
      rw [drop_getD l i (by omega), show textNums (l.getD i 0 :: l.drop (i + 1)) = leNums (l.getD i 0) 4 ++ textNums (l.drop (i + 1)) from rfl, str_append, ← app_assoc]
      simp only [hs]
      exact Ev.congr (fun k => if_pos (by omega)) this
theorem ref_text (l : List Int) (b : ByteArray) (c e : Int) (hl : l.length ≤ 100000) : Ev (fun k => hibernacleref12_text.f k l b c e) (tx l) := by
  have := ref_text_loop l b c e hl l.length 0 ⟨#[]⟩ (by omega) rfl
  rw [nil_app] at this
  exact this
end Go.Proofs.Ytgjhabeoaejcdaa.Q
end
section
namespace Go.Proofs.Ytgjhabeoaejcdaa.Q
open Go.RowKit Go.Proofs.Ytgjhabeoaejcdaa.P Go.Proofs.YtgjhabeoaejcdaaW.PrintWords Go.Proofs.YtgjhabeoaejcdaaW.PrintLast Go.Proofs.YtgjhabeoaejcdaaW.PrintMore
def num (s : ByteArray) (i n : Nat) : Int := ofB (bytesOf (s.extract i (i + n)))
theorem num_range (s : ByteArray) (i n : Nat) (hn : n ≤ 4) : 0 ≤ num s i n ∧ num s i n < 4294967296 := by
  have h := ofB_range _ (bytesOf_range (s.extract i (i + n)))
  have hl : (bytesOf (s.extract i (i + n))).length ≤ 4 := by rw [bytesOf_length, ByteArray.size_extract]; omega
  have hp : (256 : Int) ^ (bytesOf (s.extract i (i + n))).length ≤ 4294967296 := by
    generalize (bytesOf (s.extract i (i + n))).length = m at hl
    obtain rfl | rfl | rfl | rfl | rfl : m = 0 ∨ m = 1 ∨ m = 2 ∨ m = 3 ∨ m = 4 := by omega
    all_goals decide
  unfold num
  omega
theorem num_range2 (s : ByteArray) (i : Nat) : 0 ≤ num s i 2 ∧ num s i 2 < 65536 := by
  have h := ofB_range _ (bytesOf_range (s.extract i (i + 2)))
  have hl : (bytesOf (s.extract i (i + 2))).length ≤ 2 := by rw [bytesOf_length, ByteArray.size_extract]; omega
  have hp : (256 : Int) ^ (bytesOf (s.extract i (i + 2))).length ≤ 65536 := by
    generalize (bytesOf (s.extract i (i + 2))).length = m at hl
    obtain rfl | rfl | rfl : m = 0 ∨ m = 1 ∨ m = 2 := by omega
    all_goals decide
  unfold num
  omega
theorem of1_eq (s : ByteArray) (hs : s.size ≤ 1000000) (i n : Nat) (hn : n ≤ 4) (h : i + n ≤ s.size) : exe_Of_1.f i n s = some (num s i n) := by
  unfold exe_Of_1.f
  rw [if_pos ⟨by omega, by omega, by omega, by omega, by omega⟩]
  rfl
def marked (s : ByteArray) : Prop := s.extract 0 (min s.size 4) = (⟨#[104, 105, 98, 120]⟩ : ByteArray).extract 0 (min s.size 4)
instance (s : ByteArray) : Decidable (marked s) := by unfold marked; infer_instance
def wordsOf (s : ByteArray) (n : Nat) : List Int := (List.range n).map fun i => num s (14 + 4 * i) 4
def ofFile (s : ByteArray) : List Int × ByteArray × Int × Int × Int :=
  if marked s then
    if s.size < 14 then ([], ⟨#[]⟩, 0, 0, 4)
    else if (s.size : Int) < 14 + 4 * num s 8 2 + num s 10 2 then ([], ⟨#[]⟩, 0, 0, 4)
    else if (s.size : Int) > 14 + 4 * num s 8 2 + num s 10 2 then ([], ⟨#[]⟩, 0, 0, 3)
    else if chk (wordsOf s (num s 8 2).toNat) (s.extract (14 + 4 * (num s 8 2).toNat) s.size) (num s 12 2) (num s 4 4) = 0 then
      (wordsOf s (num s 8 2).toNat, s.extract (14 + 4 * (num s 8 2).toNat) s.size, num s 12 2, num s 4 4, 0)
    else ([], ⟨#[]⟩, 0, 0, 3)
  else ([], ⟨#[]⟩, 0, 0, 3)
theorem u32_same {x : Int} (h : 0 ≤ x ∧ x < 4294967296) : IntKind.u32.wrap x = x := u32_id h.1 h.2
theorem toList_iff (a b : ByteArray) : a.toList = b.toList ↔ a = b := by
  constructor
  · intro h
    rw [ByteArray.toList_eq, ByteArray.toList_eq] at h
    exact ByteArray.ext (Array.toList_inj.mp h)
  · intro h; rw [h]
theorem words_snoc (s : ByteArray) (i : Nat) : wordsOf s (i + 1) = wordsOf s i ++ [num s (14 + 4 * i) 4] := by
  unfold wordsOf; rw [List.range_succ, List.map_append]; rfl
theorem words_length (s : ByteArray) (i : Nat) : (wordsOf s i).length = i := by simp [wordsOf]
theorem exe_of_loop (s : ByteArray) (hs : s.size ≤ 100000) (n : Nat) (hn : 14 + 4 * n ≤ s.size) (x : Int) (d : ByteArray) (hd : d.size ≤ 100000) (c e : Int) (he : 0 ≤ e) (r : List Int × ByteArray × Int × Int × Int)
    (hr : (if (s.size : Int) > x then (([] : List Int), (⟨#[]⟩ : ByteArray), (0 : Int), (0 : Int), (3 : Int)) else if chk (wordsOf s n) d c e = 0 then (wordsOf s n, d, c, e, 0) else ([], ⟨#[]⟩, 0, 0, 3)) = r) :
    ∀ (m i : Nat), i + m = n → Ev (fun k => exe_Of.l0 k x n i s (wordsOf s i) d c e) r := by
  intro m
  induction m with
  | zero =>
    intro i hi
    obtain rfl : i = n := by omega
    refine Ev.step (f := fun _ => some r) (fun k => ?_) (Ev.now _)
    simp only [exe_Of.l0]
    rw [if_neg (by omega), exe_check _ d c e (by omega) he, Option.bind_some, ← hr]
    split
    · rfl
    · split <;> rfl
  | succ m ih =>
    intro i hi
    have e1 : wrap64 ((i : Int) + 1) = ((i + 1 : Nat) : Int) := by rw [wrap64_id (by omega) (by omega)]; omega
    have e4 : wrap64 (4 * (i : Int)) = ((4 * i : Nat) : Int) := by rw [wrap64_id (by omega) (by omega)]; omega
    have e5 : wrap64 (14 + ((4 * i : Nat) : Int)) = ((14 + 4 * i : Nat) : Int) := by rw [wrap64_id (by omega) (by omega)]; omega
    have ho := of1_eq s (by omega) (14 + 4 * i) 4 (by omega) (by omega)
    rw [show ((4 : Nat) : Int) = 4 from rfl] at ho
    refine Ev.step (f := fun k => exe_Of.l0 k x n ((i + 1 : Nat) : Int) s (wordsOf s (i + 1)) d c e) (fun k => ?_) (ih (i + 1) (by omega))
    simp only [exe_Of.l0, e1, e4, e5, ho, Option.bind_some]
    rw [if_pos (by omega), if_pos (by rw [words_length]; omega), u32_same (num_range s _ 4 (by omega)), ← words_snoc]
theorem exe_of (s : ByteArray) (hs : s.size ≤ 100000) : Ev (fun k => exe_Of.f k s) (ofFile s) := by
  have em : mn (s.size : Int) 4 = ((min s.size 4 : Nat) : Int) := by unfold mn; split <;> omega
  unfold exe_Of.f
  simp only [em, Int.toNat_natCast, toList_iff]
  refine Ev.congr (fun k => if_pos (by omega)) ?_
  refine Ev.congr (fun k => if_pos (by omega)) ?_
  refine Ev.congr (fun k => if_pos (by omega)) ?_
  unfold ofFile
  by_cases hm : marked s
  · rw [if_pos hm]
    refine Ev.congr (fun k => if_pos hm) ?_
    by_cases h14 : s.size < 14
    · rw [if_pos h14]
      exact Ev.congr (fun k => if_pos (by omega)) (Ev.now _)
    · rw [if_neg h14]
      refine Ev.congr (fun k => if_neg (by omega)) ?_
      have o8 := of1_eq s (by omega) 8 2 (by omega) (by omega)
      have o10 := of1_eq s (by omega) 10 2 (by omega) (by omega)
      have o4 := of1_eq s (by omega) 4 4 (by omega) (by omega)
      have o12 := of1_eq s (by omega) 12 2 (by omega) (by omega)
      simp only [show ((8 : Nat) : Int) = 8 from rfl, show ((2 : Nat) : Int) = 2 from rfl, show ((10 : Nat) : Int) = 10 from rfl, show ((4 : Nat) : Int) = 4 from rfl, show ((12 : Nat) : Int) = 12 from rfl] at o8 o10 o4 o12
      simp only [o8, o10, o4, o12, Option.bind_some]
      have r8 := num_range2 s 8
      have r10 := num_range2 s 10
      have r12 := num_range2 s 12
      have r4 := num_range s 4 4 (by omega)
      obtain ⟨n, hn⟩ := Int.eq_ofNat_of_zero_le r8.1
      obtain ⟨m, hm2⟩ := Int.eq_ofNat_of_zero_le r10.1
      rw [hn] at r8
      rw [hm2] at r10
      simp only [hn, hm2]
      clear o8 o10 o4 o12 r12 hn hm2
      have e1 : wrap64 (4 * (n : Int)) = ((4 * n : Nat) : Int) := by rw [wrap64_id (by omega) (by omega)]; omega
      have e2 : wrap64 (14 + ((4 * n : Nat) : Int)) = ((14 + 4 * n : Nat) : Int) := by rw [wrap64_id (by omega) (by omega)]; omega
      have e3 : wrap64 (((14 + 4 * n : Nat) : Int) + (m : Int)) = ((14 + 4 * n + m : Nat) : Int) := by rw [wrap64_id (by omega) (by omega)]; omega
      have e4 : wrap64 (((14 + 4 * n + m : Nat) : Int) - (m : Int)) = ((14 + 4 * n : Nat) : Int) := by rw [wrap64_id (by omega) (by omega)]; omega
      simp only [e1, e2, e3, e4, Int.toNat_natCast]
      by_cases hlt : (s.size : Int) < 14 + 4 * (n : Int) + (m : Int)
      · rw [if_pos hlt]
        exact Ev.congr (fun k => if_pos (by omega)) (Ev.now _)
      · rw [if_neg hlt]
        refine Ev.congr (fun k => if_neg (by omega)) ?_
        refine Ev.congr (fun k => if_pos (by omega)) ?_
        refine Ev.congr (fun k => if_pos (by omega)) ?_
        refine Ev.congr (fun k => if_pos (by omega)) ?_
        have hc : strings_Clone.f (s.extract (14 + 4 * n) (14 + 4 * n + m)) = some (s.extract (14 + 4 * n) (14 + 4 * n + m)) := by
          unfold strings_Clone.f; rw [if_pos (by rw [ByteArray.size_extract]; omega)]
        simp only [hc, Option.bind_some, u32_same r4]
        refine exe_of_loop s hs n (by omega) _ _ (by rw [ByteArray.size_extract]; omega) _ _ r4.1 _ ?_ n 0 (Nat.zero_add _)
        by_cases hgt : (s.size : Int) > 14 + 4 * (n : Int) + (m : Int)
        · rw [if_pos hgt, if_pos (by omega)]
        · rw [if_neg hgt, if_neg (by omega), show 14 + 4 * n + m = s.size by omega]
  · rw [if_neg hm]
    exact Ev.congr (fun k => if_neg hm) (Ev.now _)
end Go.Proofs.Ytgjhabeoaejcdaa.Q
end
section
namespace Go.Proofs.Ytgjhabeoaejcdaa.Q
open Go.RowKit Go.Proofs.Ytgjhabeoaejcdaa.P Go.Proofs.YtgjhabeoaejcdaaW.PrintWords Go.Proofs.YtgjhabeoaejcdaaW.PrintLast Go.Proofs.YtgjhabeoaejcdaaW.PrintMore
theorem same_loop (l : List Int) (hl : l.length ≤ 1000000) (b : ByteArray) (c e : Int) : ∀ (d i : Nat), i + d = l.length → Ev (fun k => hibernacleref12_Same.l0 k (l.length : Int) i l b c e l b c e) true := by
  intro d
  induction d with
  | zero =>
    intro i hi
    refine Ev.step (f := fun _ => some true) (fun k => ?_) (Ev.now _)
    simp only [hibernacleref12_Same.l0]; rw [if_neg (by omega)]
  | succ d ih =>
    intro i hi
    have e1 : wrap64 ((i : Int) + 1) = ((i + 1 : Nat) : Int) := by rw [wrap64_id (by omega) (by omega)]; omega
    refine Ev.step (f := fun k => hibernacleref12_Same.l0 k (l.length : Int) ((i + 1 : Nat) : Int) l b c e l b c e) (fun k => ?_) (ih (i + 1) (by omega))
    simp only [hibernacleref12_Same.l0]
    rw [if_pos (by omega), if_pos (by omega), if_pos (by omega), if_pos (by omega), if_pos trivial, e1]
theorem same_refl (l : List Int) (hl : l.length ≤ 1000000) (b : ByteArray) (c e : Int) : Ev (fun k => hibernacleref12_Same.f k l b c e l b c e) true := by
  unfold hibernacleref12_Same.f
  simp only [if_true]
  refine Ev.step (f := fun k => hibernacleref12_Same.l0 k (l.length : Int) 0 l b c e l b c e) (fun k => ?_) (same_loop l hl b c e l.length 0 (Nat.zero_add _))
  simp only [hibernacleref12_Same.j0]
  rw [if_neg (by simp)]
end Go.Proofs.Ytgjhabeoaejcdaa.Q
end
section
namespace Go.Proofs.Ytgjhabeoaejcdaa.Q
open Go.RowKit Go.Proofs.Ytgjhabeoaejcdaa.P Go.Proofs.YtgjhabeoaejcdaaW.PrintWords Go.Proofs.YtgjhabeoaejcdaaW.PrintLast Go.Proofs.YtgjhabeoaejcdaaW.PrintMore
theorem num_mid (a : ByteArray) (x : Int) (i n : Nat) (c : ByteArray) (h : a.size = i) : num (a ++ (le x n ++ c)) i n = ofB (leNums x n) := by
  subst h
  unfold num
  have := extract_mid a (le x n) c
  rw [le_size] at this
  rw [this, bytesOf_le]
theorem file_marked (l : List Int) (b : ByteArray) (c e : Int) (m : Nat) (hm : m ≤ 4) : (fileOf l b c e).extract 0 m = (⟨#[104, 105, 98, 120]⟩ : ByteArray).extract 0 m := by
  unfold fileOf headOf
  simp only [app_assoc]
  exact extract_left _ _ _ _ (by rw [hibx_size]; omega)
theorem file_nums (l : List Int) (b : ByteArray) (c e : Int) : num (fileOf l b c e) 4 4 = e % 4294967296 ∧ num (fileOf l b c e) 8 2 = (l.length : Int) % 65536 ∧
    num (fileOf l b c e) 10 2 = (b.size : Int) % 65536 ∧ num (fileOf l b c e) 12 2 = c % 65536 := by
  refine ⟨?_, ?_, ?_, ?_⟩
  · have := num_mid (⟨#[104, 105, 98, 120]⟩ : ByteArray) e 4 4 (le l.length 2 ++ (le b.size 2 ++ (le c 2 ++ (tx l ++ b)))) rfl
    rw [ofB_le4] at this
    rw [← this]; unfold fileOf headOf; simp only [app_assoc]
  · have := num_mid ((⟨#[104, 105, 98, 120]⟩ : ByteArray) ++ le e 4) (l.length : Int) 8 2 (le b.size 2 ++ (le c 2 ++ (tx l ++ b))) (by rw [ByteArray.size_append, le_size]; rfl)
    rw [ofB_le2] at this
    rw [← this]; unfold fileOf headOf; simp only [app_assoc]
  · have := num_mid ((⟨#[104, 105, 98, 120]⟩ : ByteArray) ++ le e 4 ++ le l.length 2) (b.size : Int) 10 2 (le c 2 ++ (tx l ++ b)) (by rw [ByteArray.size_append, ByteArray.size_append, le_size, le_size]; rfl)
    rw [ofB_le2] at this
    rw [← this]; unfold fileOf headOf; simp only [app_assoc]
  · have := num_mid ((⟨#[104, 105, 98, 120]⟩ : ByteArray) ++ le e 4 ++ le l.length 2 ++ le b.size 2) c 12 2 (tx l ++ b) (by rw [ByteArray.size_append, ByteArray.size_append, ByteArray.size_append, le_size, le_size, le_size]; rfl)
    rw [ofB_le2] at this
    rw [← this]; unfold fileOf headOf; simp only [app_assoc]
theorem file_words (l : List Int) (hw : ∀ x ∈ l, 0 ≤ x ∧ x < 4294967296) (b : ByteArray) (c e : Int) : wordsOf (fileOf l b c e) l.length = l := by
  apply List.ext_getElem?
  intro i
  unfold wordsOf
  rw [List.getElem?_map]
  by_cases h : i < l.length
  · rw [List.getElem?_range h, List.getElem?_eq_getElem h]
    simp only [Option.map_some, Option.some.injEq]
    have hx : l.getD i 0 = l[i] := by rw [List.getD_eq_getElem?_getD, List.getElem?_eq_getElem h]; rfl
    have e1 := extract_right (headOf l b c e) (tx l ++ b) (4 * i) (4 * i + 4)
    rw [head_size, tx_word l i h b, ← Nat.add_assoc] at e1
    unfold num fileOf
    rw [app_assoc, e1, bytesOf_le, ofB_le4, hx, Int.emod_eq_of_lt (hw _ (List.getElem_mem h)).1 (hw _ (List.getElem_mem h)).2]
  · rw [List.getElem?_eq_none (by simpa using h), List.getElem?_eq_none (by omega)]; rfl
theorem file_data (l : List Int) (b : ByteArray) (c e : Int) : (fileOf l b c e).extract (14 + 4 * l.length) (fileOf l b c e).size = b := by
  have := extract_end (headOf l b c e ++ tx l) b
  rw [ByteArray.size_append (a := headOf l b c e), head_size, tx_size] at this
  exact this
theorem of_file (l : List Int) (b : ByteArray) (c e : Int) (hc : chk l b c e = 0) (hw : ∀ x ∈ l, 0 ≤ x ∧ x < 4294967296) (he0 : 0 ≤ e) (he1 : e < 4294967296) : ofFile (fileOf l b c e) = (l, b, c, e, 0) := by
  have H := chk_bounds hc
  have hp := H.2.2.2.2.2.2
  have hb2 : b.size ≤ 1792 := by unfold pg at hp; omega
  obtain ⟨n4, n8, n10, n12⟩ := file_nums l b c e
  have hs := file_size l b c e
  rw [Int.emod_eq_of_lt he0 he1] at n4
  rw [Int.emod_eq_of_lt (by omega) (by omega)] at n8 n10 n12
  unfold ofFile
  have hm : marked (fileOf l b c e) := by
    unfold marked
    exact file_marked l b c e _ (by omega)
  rw [if_pos hm, if_neg (by omega), n4, n8, n10, n12, if_neg (by omega), if_neg (by omega), Int.toNat_natCast, file_words l hw, file_data, if_pos hc]
end Go.Proofs.Ytgjhabeoaejcdaa.Q
end
section
namespace Go.Proofs.Ytgjhabeoaejcdaa.Q
open Go.RowKit Go.Proofs.Ytgjhabeoaejcdaa.P Go.Proofs.YtgjhabeoaejcdaaW.PrintWords Go.Proofs.YtgjhabeoaejcdaaW.PrintLast Go.Proofs.YtgjhabeoaejcdaaW.PrintMore
theorem ref_bytes (l : List Int) (b : ByteArray) (c e : Int) (hb : b.size ≤ 1000000000) (he0 : 0 ≤ e) (he1 : e < 4294967296) :
    Ev (fun k => hibernacleref12_Bytes.f k l b c e) (if chk l b c e = 0 then (fileOf l b c e, 0) else ((⟨#[]⟩ : ByteArray), 1)) := by
  unfold hibernacleref12_Bytes.f
  refine Ev.bind (ref_check l b c e hb he0 he1) ?_
  by_cases hc : chk l b c e = 0
  · have H := chk_bounds hc
    have hp := H.2.2.2.2.2.2
    have hb2 : b.size ≤ 1792 := by unfold pg at hp; omega
    rw [if_pos hc]
    refine Ev.congr (fun k => if_pos hc) ?_
    have p4 := ref_put 4 (by omega) e he0 (by omega)
    have p1 := ref_put 2 (by omega) (l.length : Int) (by omega) (by omega)
    have p2 := ref_put 2 (by omega) (b.size : Int) (by omega) (by omega)
    have p3 := ref_put 2 (by omega) c (by omega) (by omega)
    rw [u64_same he0 (by omega), u64_same (x := (l.length : Int)) (by omega) (by omega), u64_same (x := (b.size : Int)) (by omega) (by omega), u64_same (x := c) (by omega) (by omega)]
    have hs : ∀ x n, (strOfNums (leNums x n)).size = n := le_size
    have ht := tx_size l
    refine Ev.bind p4 (Ev.bind p1 ?_)
    refine Ev.congr (fun k => if_pos (by rw [hs, hs]; omega)) (Ev.bind p2 ?_)
    refine Ev.congr (fun k => if_pos (by rw [ByteArray.size_append, hs, hs, hs]; omega)) (Ev.bind p3 ?_)
    refine Ev.congr (fun k => if_pos (by rw [ByteArray.size_append, ByteArray.size_append, hs, hs, hs, hs]; omega)) ?_
    refine Ev.congr (fun k => if_pos (by rw [ByteArray.size_append, ByteArray.size_append, ByteArray.size_append, hs, hs, hs, hs]; omega)) (Ev.bind (ref_text l b c e (by omega)) ?_)
    refine Ev.congr (fun k => if_pos (by simp only [ByteArray.size_append, hs, ht, hibx_size]; omega)) ?_
    refine Ev.congr (fun k => if_pos (by simp only [ByteArray.size_append, hs, ht, hibx_size]; omega)) ?_
    unfold fileOf headOf le
    simp only [app_assoc]
    exact Ev.now _
  · rw [if_neg hc]
    exact Ev.congr (fun k => if_neg hc) (Ev.now _)
theorem ExeBytes_ev (l : List Int) (b : ByteArray) (c e : Int) (hw : ∀ x ∈ l, 0 ≤ x ∧ x < 4294967296) (he0 : 0 ≤ e) (he1 : e < 4294967296) : Ev (fun k => hibernaclelaw12_ExeBytes.f k l b c e) true := by
  unfold hibernaclelaw12_ExeBytes.f
  simp only [great_eq, Option.bind_some]
  by_cases hg : l.length > 600 ∨ b.size > 3000
  · exact Ev.congr (fun k => if_pos (decide_eq_true hg)) (Ev.bind awake_ev (Ev.now _))
  · refine Ev.congr (fun k => if_neg (by simpa using hg)) ?_
    simp only [exe_bytes l b c e (by omega) he0 he1, exe_check l b c e (by omega) he0, Option.bind_some]
    refine Ev.bind (ref_bytes l b c e (by omega) he0 he1) (Ev.bind (ref_check l b c e (by omega) he0 he1) ?_)
    refine Ev.congr (fun k => if_pos rfl) ?_
    refine Ev.congr (fun k => if_pos rfl) ?_
    by_cases hc : chk l b c e = 0
    · rw [if_pos hc]
      have H := chk_bounds hc
      have ho := exe_of (fileOf l b c e) (by rw [file_size]; omega)
      rw [of_file l b c e hc hw he0 he1] at ho
      refine Ev.step (f := fun k => (exe_Of.f k (fileOf l b c e)).bind fun bt => if bt.2.2.2.2 = 0 then (hibernacleref12_Same.f k l b c e bt.1 bt.2.1 bt.2.2.1 bt.2.2.2.1).bind fun t => if t = true then (hibernaclelaw12_awake.f k).bind fun t261 => some t261 else some false else some false) (fun k => ?_) ?_
      · simp only [hibernaclelaw12_ExeBytes.j0]
        rw [if_neg (by simp)]
        rfl
      · refine Ev.bind ho (Ev.congr (fun k => if_pos rfl) (Ev.bind (same_refl l (by omega) b c e) (Ev.congr (fun k => if_pos rfl) (Ev.bind awake_ev (Ev.now _)))))
    · rw [if_neg hc]
      refine Ev.step (f := fun k => (exe_Of.f k (⟨#[]⟩ : ByteArray)).bind fun _ => (hibernaclelaw12_awake.f k).bind fun t262 => some t262) (fun k => ?_) (Ev.bind (exe_of ⟨#[]⟩ (by decide)) (Ev.bind awake_ev (Ev.now _)))
      simp only [hibernaclelaw12_ExeBytes.j0]
      rw [if_neg (by simp)]
      rfl
end Go.Proofs.Ytgjhabeoaejcdaa.Q
end
