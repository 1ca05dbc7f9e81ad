import Derived.Test.YtgjhabeoaejcdaaPx0
import Derived.Test.YtgjhabeoaejcdaaPAx1
import Derived.Test.YtgjhabeoaejcdaaGs
import Derived.Lib.Bytealg
import Derived.Lib.Repeat
namespace Go.Proofs.Ytgjhabeoaejcdaa.P
open Go.RowKit Go.Proofs.YtgjhabeoaejcdaaW.PrintWords Go.Proofs.YtgjhabeoaejcdaaW.PrintLast Go.Proofs.YtgjhabeoaejcdaaW.PrintMore

/-- The bytes of a number, the lowest first. -/
def leNums (n : Int) : Nat → List Int
  | 0 => []
  | k + 1 => n % 256 :: leNums (n / 256) k
theorem leNums_length (k : Nat) : ∀ n : Int, (leNums n k).length = k := by
  induction k with
  | zero => intro n; rfl
  | succ k ih => intro n; simp [leNums, ih]
theorem leNums_get (k : Nat) : ∀ (n : Int) (i : Nat), i < k → (leNums n k)[i]? = some (n / 256 ^ i % 256) := by
  induction k with
  | zero => intro n i h; omega
  | succ k ih =>
    intro n i h
    cases i with
    | zero => simp [leNums]
    | succ i =>
      simp only [leNums, List.getElem?_cons_succ]
      rw [ih (n / 256) i (by omega), Int.pow_succ, Int.mul_comm, Int.ediv_ediv_of_nonneg (by omega)]
theorem wrap64_id {n : Int} (h0 : -9223372036854775808 ≤ n) (h1 : n ≤ 9223372036854775807) : wrap64 n = n := by
  unfold wrap64; omega
theorem two_pow8 (i : Nat) : (2 : Int) ^ (8 * i) = 256 ^ i := by
  rw [Int.pow_mul]; rfl
theorem put_loop (a0 : Int) (n : Nat) (hn : n ≤ 8) : ∀ (d k i : Nat) (xs : List Int), xs.length = n → i + d = n → d < k →
    xs.take i = (leNums a0 n).take i → PA.num_Put.l0 k a0 xs n i = some (strOfNums (leNums a0 n)) := by
  intro d
  induction d with
  | zero =>
    intro k i xs hx hi hk ht
    obtain ⟨k, rfl⟩ : ∃ m, k = m + 1 := ⟨k - 1, by omega⟩
    simp only [PA.num_Put.l0]
    rw [if_neg (by omega)]
    rw [List.take_of_length_le (by omega), List.take_of_length_le (by rw [leNums_length]; omega)] at ht
    rw [ht]
  | succ d ih =>
    intro k i xs hx hi hk ht
    obtain ⟨k, rfl⟩ : ∃ m, k = m + 1 := ⟨k - 1, by omega⟩
    simp only [PA.num_Put.l0]
    have e8 : wrap64 (8 * (i : Int)) = 8 * (i : Int) := wrap64_id (by omega) (by omega)
    have e1 : wrap64 ((i : Int) + 1) = ((i + 1 : Nat) : Int) := by rw [wrap64_id (by omega) (by omega)]; omega
    rw [if_pos (by omega), e8, if_pos (by omega), if_pos (by omega), if_pos (by omega), e1]
    refine ih k (i + 1) _ (by simpa using hx) (by omega) (by omega) ?_
    have hg := leNums_get n a0 i (by omega)
    have es : shr .u64 a0 (8 * (i : Int)) = a0 / 256 ^ i := by
      unfold shr
      have : min (8 * (i : Int)).toNat IntKind.u64.bits = 8 * i := by
        have : IntKind.u64.bits = 64 := rfl
        omega
      rw [this, two_pow8]
    rw [es, Int.toNat_natCast, List.take_add_one, List.take_add_one, hg, List.getElem?_set_self (by omega), List.take_set_of_le (by omega), ht]

def num_Put.f (a0 : Int) (a1 : Int) : Option ByteArray := some (strOfNums (leNums a0 (min (max a1 0) 8).toNat))
theorem num_Put.calls (a0 : Int) (a1 : Int) (r : ByteArray) (w : World) (h : num_Put.f a0 a1 = some r) :
    Calls Try.prog 32 #[.int .u64 a0, .int .i64 a1] w fun e w' => e = .returned (.string r) ∧ Below w.heap.size w w' := by
  refine PA.num_Put.calls 9 a0 a1 r w ?_
  rw [← h]
  unfold num_Put.f PA.num_Put.f
  have em : mn (mx a1 0) 8 = ((min (max a1 0) 8).toNat : Int) := by
    unfold mn mx; (repeat' split) <;> omega
  rw [em, if_pos (by omega), if_pos (by omega), Option.bind_some]
  have := put_loop a0 (min (max a1 0) 8).toNat (by omega) (min (max a1 0) 8).toNat 9 0 (List.replicate (min (max a1 0) 8).toNat 0) (by simp) (by omega) (by omega) (by simp)
  rw [Int.toNat_natCast, List.length_replicate]
  exact this

def strings_Repeat.f (a0 : ByteArray) (a1 : Int) : Option ByteArray :=
  if 0 ≤ a1 ∧ a1 ≤ 9223372036854775807 ∧ a0.size * a1.toNat ≤ 140737488355328 then some ⟨(Lib.repeatL a0.data.toList a1.toNat).toArray⟩ else none
theorem strings_Repeat.calls (a0 : ByteArray) (a1 : Int) (r : ByteArray) (w : World) (h : strings_Repeat.f a0 a1 = some r) :
    Calls Try.prog 24 #[.string a0, .int .i64 a1] w fun e w' => e = .returned (.string r) ∧ Below w.heap.size w w' := by
  unfold strings_Repeat.f at h
  split at h
  · rename_i hc
    obtain ⟨n, rfl⟩ := Int.eq_ofNat_of_zero_le hc.1
    rw [← Option.some.inj h]
    exact Try.strings_Repeat a0 n w (by omega) (by simpa using hc.2.2)
  · exact absurd h (by simp)

def strings_IndexByte.f (a0 : ByteArray) (a1 : Int) : Option Int := some (Lib.indexByte a0.data.toList a1.toNat.toUInt8)
theorem strings_IndexByte.calls (a0 : ByteArray) (a1 : Int) (r : Int) (w : World) (h : strings_IndexByte.f a0 a1 = some r) :
    Calls Try.prog 41 #[.string a0, .int .u8 a1] w fun e w' => e = .returned (.int .i64 r) ∧ Drawn0 w w' := by
  rw [← Option.some.inj h]
  exact (Try.strings_IndexByte a0 a1 w).mono fun e w' ⟨he, hw⟩ => ⟨he, hw ▸ Drawn0.refl _⟩

def strings_Clone.f (a0 : ByteArray) : Option ByteArray := if a0.size ≤ 140737488355328 then some a0 else none
theorem strings_Clone.calls (a0 : ByteArray) (r : ByteArray) (w : World) (h : strings_Clone.f a0 = some r) :
    Calls Try.prog 36 #[.string a0] w fun e w' => e = .returned (.string r) ∧ Below w.heap.size w w' := by
  unfold strings_Clone.f at h
  split at h
  · rename_i hc
    rw [← Option.some.inj h]
    go_enter Try.func36, Try.ntmps36
    go_wp2_with (go_at_call 48; refine (Try.stringslite_Clone a0 _ (by omega)).mono ?_; rintro e w1 ⟨rfl, hb⟩)
    go_ret
    exact ⟨rfl, hb⟩
  · exact absurd h (by simp)

end Go.Proofs.Ytgjhabeoaejcdaa.P
