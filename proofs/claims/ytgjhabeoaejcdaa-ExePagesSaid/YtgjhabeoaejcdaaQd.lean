import Derived.Test.YtgjhabeoaejcdaaPx0
import Derived.Test.YtgjhabeoaejcdaaPx18
import Derived.Test.YtgjhabeoaejcdaaQc
import Derived.Laws.BitsLemmas
/- The plain law of the program's file, first part: numbers out of bytes. -/
namespace Go.Proofs.Ytgjhabeoaejcdaa.Q
open Go.RowKit Go.Proofs.Ytgjhabeoaejcdaa.P Go.Proofs.YtgjhabeoaejcdaaW.PrintWords Go.Proofs.YtgjhabeoaejcdaaW.PrintLast Go.Proofs.YtgjhabeoaejcdaaW.PrintMore

/-- The number of bytes, the lowest first. -/
def ofB : List Int → Int
  | [] => 0
  | x :: xs => x + 256 * ofB xs
theorem bytesOf_range (s : ByteArray) : ∀ x ∈ bytesOf s, 0 ≤ x ∧ x < 256 := by
  intro x hx
  unfold bytesOf at hx
  obtain ⟨b, _, rfl⟩ := List.mem_map.mp hx
  have := b.toNat_lt
  omega
theorem bytesOf_str (xs : List Int) (h : ∀ x ∈ xs, 0 ≤ x ∧ x < 256) : bytesOf (strOfNums xs) = xs := by
  unfold bytesOf
  rw [strOfNums_data, List.map_map]
  conv => rhs; rw [← List.map_id xs]
  apply List.map_congr_left
  intro x hx
  have := h x hx
  simp only [Function.comp, id]
  rw [UInt8.toNat_ofNat']
  omega
theorem str_bytesOf (s : ByteArray) : strOfNums (bytesOf s) = s := by
  unfold bytesOf strOfNums
  rw [List.map_map]
  have : ((fun n : Int => UInt8.ofNat n.toNat) ∘ fun b : UInt8 => (b.toNat : Int)) = id := by
    funext b; simp
  rw [this, List.map_id]
theorem bt_getD (s : ByteArray) (i : Nat) : bt s (i : Int) = (bytesOf s).getD i 0 := by
  rw [← rd_bytesOf]; unfold rd; rw [Int.toNat_natCast]
theorem byte_at (s : ByteArray) (i : Nat) (h : i < s.size) : 0 ≤ bt s (i : Int) ∧ bt s (i : Int) < 256 := by
  have := bt_range s (i : Int); omega
theorem bits_up (acc b : Int) (i : Nat) (hi : i ≤ 7) (ha0 : 0 ≤ acc) (ha : acc < 256 ^ i) (hb0 : 0 ≤ b) (hb : b < 256) :
    bits .or .u64 acc (shl .u64 (IntKind.u64.wrap b) (8 * (i : Int))) = acc + b * 256 ^ i := by
  have hw : ∀ n : Int, 0 ≤ n → n < 2 ^ 64 → IntKind.u64.wrap n = n := fun n h0 h1 => by rw [u64_wrap]; omega
  have e1 : (2 : Int) ^ min (8 * (i : Int)).toNat IntKind.u64.bits = 256 ^ i := by
    have : min (8 * (i : Int)).toNat IntKind.u64.bits = 8 * i := by
      have : IntKind.u64.bits = 64 := rfl
      omega
    rw [this, two_pow8]
  have hp : (0 : Int) < 256 ^ i := Int.pow_pos (by omega)
  have hm : (256 : Int) ^ i * 256 ≤ 18446744073709551616 := by
    have : (256 : Int) ^ i ≤ 72057594037927936 := by
      obtain rfl | rfl | rfl | rfl | rfl | rfl | rfl | rfl : i = 0 ∨ i = 1 ∨ i = 2 ∨ i = 3 ∨ i = 4 ∨ i = 5 ∨ i = 6 ∨ i = 7 := by omega
      all_goals decide
    omega
  have h2 : b * 256 ^ i ≤ 255 * 256 ^ i := Int.mul_le_mul_of_nonneg_right (by omega) (by omega)
  have h3 : 0 ≤ b * 256 ^ i := Int.mul_nonneg hb0 (by omega)
  have h4 : b * 256 ^ i < 18446744073709551616 := by omega
  have h5 : acc < 18446744073709551616 := by omega
  unfold shl
  rw [e1, u64_same (x := b) hb0 (by omega), u64_same h3 h4]
  obtain ⟨x, hx⟩ := Int.eq_ofNat_of_zero_le h3
  obtain ⟨a, rfl⟩ := Int.eq_ofNat_of_zero_le ha0
  have hj := bits_join .u64 64 (by decide) hw (8 * i) (b * 256 ^ i) a h3 (by rw [two_pow8]; exact Int.mul_emod_left b (256 ^ i)) (by omega) (by omega) (by rw [two_pow8]; exact ha) (by omega)
  rw [hx] at hj ⊢
  have b1 := (bits_nat .u64 64 (by decide) hw a x (by omega) (by omega)).2
  have b2 := (bits_nat .u64 64 (by decide) hw x a (by omega) (by omega)).2
  rw [b1, Nat.or_comm, ← b2, hj]
  omega
theorem ofB_range (xs : List Int) (h : ∀ x ∈ xs, 0 ≤ x ∧ x < 256) : 0 ≤ ofB xs ∧ ofB xs < 256 ^ xs.length := by
  induction xs with
  | nil => simp [ofB]
  | cons x xs ih =>
    have h1 := ih fun y hy => h y (List.mem_cons_of_mem _ hy)
    have h2 := h x (List.mem_cons_self ..)
    simp only [ofB, List.length_cons, Int.pow_succ]
    omega
theorem ofB_append (a b : List Int) : ofB (a ++ b) = ofB a + 256 ^ a.length * ofB b := by
  induction a with
  | nil => simp [ofB]
  | cons x a ih => simp only [List.cons_append, ofB, ih, List.length_cons, Int.pow_succ]; rw [Int.mul_add, ← Int.mul_assoc, Int.mul_comm (256 ^ a.length) 256]; omega
theorem num_get_loop (s : ByteArray) (hs : s.size ≤ 8) : ∀ (d i : Nat), i + d = s.size →
    Ev (fun k => num_Get.l0 k s (ofB ((bytesOf s).take i)) (s.size : Int) i) (ofB (bytesOf s)) := by
  intro d
  induction d with
  | zero =>
    intro i hi
    refine Ev.step (f := fun _ => some (ofB (bytesOf s))) (fun k => ?_) (Ev.now _)
    simp only [num_Get.l0]; rw [if_neg (by omega), List.take_of_length_le (by rw [bytesOf_length]; omega)]
  | succ d ih =>
    intro i hi
    have e1 : wrap64 ((i : Int) + 1) = ((i + 1 : Nat) : Int) := by rw [wrap64_id (by omega) (by omega)]; omega
    have e8 : wrap64 (8 * (i : Int)) = 8 * (i : Int) := wrap64_id (by omega) (by omega)
    have hl : ((bytesOf s).take i).length = i := by rw [List.length_take, bytesOf_length]; omega
    have hr := ofB_range ((bytesOf s).take i) fun x hx => bytesOf_range s x (List.mem_of_mem_take hx)
    rw [hl] at hr
    have hb := byte_at s i (by omega)
    refine Ev.step (f := fun k => num_Get.l0 k s (ofB ((bytesOf s).take (i + 1))) (s.size : Int) ((i + 1 : Nat) : Int)) (fun k => ?_) (ih (i + 1) (by omega))
    simp only [num_Get.l0, e1, e8]
    rw [if_pos (by omega), if_pos (by omega), if_pos (by omega), if_pos (by omega), bits_up _ _ i (by omega) hr.1 hr.2 hb.1 hb.2]
    congr 1
    rw [List.take_add_one, ofB_append, hl, bt_getD, List.getD_eq_getElem?_getD]
    rw [List.getElem?_eq_getElem (by rw [bytesOf_length]; omega)]
    simp only [Option.getD_some, Option.toList_some, ofB]
    rw [Int.mul_zero, Int.add_zero, Int.mul_comm]
theorem num_get (s : ByteArray) (hs : s.size ≤ 8) : Ev (fun k => num_Get.f k s) (ofB (bytesOf s)) := by
  have := num_get_loop s hs s.size 0 (by omega)
  unfold num_Get.f
  rw [show mn (s.size : Int) 8 = (s.size : Int) by unfold mn; split <;> omega]
  exact this
theorem bytesOf_le (x : Int) (n : Nat) : bytesOf (le x n) = leNums x n := bytesOf_str _ (leNums_range n x)
theorem ofB_le4 (x : Int) : ofB (leNums x 4) = x % 4294967296 := by simp only [leNums, ofB]; omega
theorem ofB_le2 (x : Int) : ofB (leNums x 2) = x % 65536 := by simp only [leNums, ofB]; omega
end Go.Proofs.Ytgjhabeoaejcdaa.Q
