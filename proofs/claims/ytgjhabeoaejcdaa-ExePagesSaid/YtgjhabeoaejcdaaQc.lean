import Derived.Test.YtgjhabeoaejcdaaPx0
import Derived.Test.YtgjhabeoaejcdaaPx3
import Derived.Test.YtgjhabeoaejcdaaPx8
import Derived.Test.YtgjhabeoaejcdaaPx9
import Derived.Test.YtgjhabeoaejcdaaPx10
import Derived.Test.YtgjhabeoaejcdaaQb
/- The plain law of the program's pages, third part: the file, the document's example. -/
namespace Go.Proofs.Ytgjhabeoaejcdaa.Q
open Go.RowKit Go.Proofs.Ytgjhabeoaejcdaa.P Go.Proofs.YtgjhabeoaejcdaaW.PrintWords Go.Proofs.YtgjhabeoaejcdaaW.PrintLast Go.Proofs.YtgjhabeoaejcdaaW.PrintMore

/-- The lowest bytes of a number. -/
def le (x : Int) (n : Nat) : ByteArray := strOfNums (leNums x n)
theorem le_size (x : Int) (n : Nat) : (le x n).size = n := by rw [le, strOfNums_size, leNums_length]
theorem put_eq (x : Int) (n : Nat) (hn : n ≤ 8) : num_Put.f x n = some (le x n) := by
  unfold num_Put.f
  rw [show (min (max (n : Int) 0) 8).toNat = n by omega]; rfl
theorem u64_same {x : Int} (h0 : 0 ≤ x) (h1 : x < 18446744073709551616) : IntKind.u64.wrap x = x := by rw [u64_wrap]; omega
/-- The head of a program's file. -/
def headOf (l : List Int) (b : ByteArray) (c e : Int) : ByteArray := (⟨#[104, 105, 98, 120]⟩ : ByteArray) ++ le e 4 ++ le l.length 2 ++ le b.size 2 ++ le c 2
def fileOf (l : List Int) (b : ByteArray) (c e : Int) : ByteArray := headOf l b c e ++ tx l ++ b
theorem hibx_size : (⟨#[104, 105, 98, 120]⟩ : ByteArray).size = 4 := rfl
theorem head_size (l : List Int) (b : ByteArray) (c e : Int) : (headOf l b c e).size = 14 := by
  unfold headOf; simp only [ByteArray.size_append, le_size, hibx_size]
theorem file_size (l : List Int) (b : ByteArray) (c e : Int) : (fileOf l b c e).size = 14 + 4 * l.length + b.size := by
  unfold fileOf; simp only [ByteArray.size_append, head_size, tx_size]
theorem exe_bytes (l : List Int) (b : ByteArray) (c e : Int) (hb : b.size ≤ 1000000000) (he0 : 0 ≤ e) (he1 : e < 4294967296) :
    exe_Bytes.f l b c e = some (if chk l b c e = 0 then (fileOf l b c e, 0) else ((⟨#[]⟩ : ByteArray), 1)) := by
  unfold exe_Bytes.f
  rw [exe_check l b c e hb he0, Option.bind_some]
  by_cases hc : chk l b c e = 0
  · have H := chk_bounds hc
    have hp := H.2.2.2.2.2.2
    have hb2 : b.size ≤ 1792 := by unfold pg at hp; omega
    have p4 := put_eq e 4 (by omega)
    have p1 := put_eq (l.length : Int) 2 (by omega)
    have p2 := put_eq (b.size : Int) 2 (by omega)
    have p3 := put_eq c 2 (by omega)
    rw [show ((4 : Nat) : Int) = 4 from rfl] at p4
    rw [show ((2 : Nat) : Int) = 2 from rfl] at p1 p2 p3
    rw [if_pos hc, if_pos hc, u64_same he0 (by omega), p4, Option.bind_some, if_pos (by rw [le_size]; omega)]
    unfold exe_Bytes_1.f
    rw [u64_same (x := (l.length : Int)) (by omega) (by omega), u64_same (x := (b.size : Int)) (by omega) (by omega), u64_same (x := c) (by omega) (by omega), p1, p2, p3, exe_text_eq l (by omega)]
    simp only [Option.bind_some, ByteArray.size_append, le_size, hibx_size, tx_size]
    rw [if_pos (by omega), if_pos (by omega), if_pos (by omega), if_pos (by omega), if_pos (by omega)]
    rfl
  · have : chk l b c e = 1 := by unfold chk at *; split <;> simp_all
    rw [if_neg hc, if_neg hc, this]

theorem chk_one : chk [7] ⟨#[]⟩ 0 0 = 0 := by decide
theorem lays_one : lays [7] ⟨#[]⟩ 0 = [⟨0, page (tx [7]) 0, false⟩, ⟨15, zs 128, true⟩] := by
  unfold lays pagesOf
  rw [tx_size, ByteArray.size_append, zs_size]
  rfl
theorem awake_ev : Ev (fun k => hibernaclelaw12_awake.f k) true := by
  unfold hibernaclelaw12_awake.f
  simp only [Option.bind_some]
  have hb := exe_bytes [7] ⟨#[]⟩ 0 0 (by decide) (by omega) (by omega)
  have hl := exe_lay [7] ⟨#[]⟩ 0 0 (by decide) (by omega)
  rw [chk_one, if_pos rfl] at hb hl
  simp only [hb, Option.bind_some]
  refine Ev.bind hl ?_
  have e18 : ((fileOf [7] ⟨#[]⟩ 0 0).size : Int) = 18 := by rw [file_size]; rfl
  simp only [show (0 : Int).toNat = 0 from rfl, lays_one, e18]
  exact Ev.now _

theorem great_eq (l : List Int) (b : ByteArray) (c e : Int) : hibernaclelaw12_great.f l b c e = some (decide (l.length > 600 ∨ b.size > 3000)) := by
  unfold hibernaclelaw12_great.f
  by_cases h : l.length > 600
  · rw [if_pos (by omega), decide_eq_true (Or.inl h)]
  · rw [if_neg (by omega)]
    congr 1
    apply decide_eq_decide.mpr
    omega

end Go.Proofs.Ytgjhabeoaejcdaa.Q
