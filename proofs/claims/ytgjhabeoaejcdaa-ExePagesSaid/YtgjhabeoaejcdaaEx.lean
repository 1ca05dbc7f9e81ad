import Derived.Test.YtgjhabeoaejcdaaPx0
import Derived.Test.YtgjhabeoaejcdaaRows
import Derived.WalkKit
import Derived.ProofKit
import Derived.OpenShut
import Derived.ShutString
import Derived.ChangeOld
import Derived.Below
import Derived.SizedLaws
import Derived.Lib.SmallJoins
/- A program (api.Exe) that came in by value, laid open. -/
namespace Go.Proofs.Ytgjhabeoaejcdaa.Ex
set_option linter.unusedSimpArgs false
set_option linter.unusedVariables false
open Go.ChangeShapes Go.WideShapes Go.ChangeAt Go.RowKit Go.Joins Go.Proofs.YtgjhabeoaejcdaaW.PrintWords
open Go.ChangeMaps (open_string shut_string)
theorem own : ownKnob Try.prog.godebug = none := by kernel_rfl
theorem laidOut : laidOutB Try.prog = true := by kernel_rfl
theorem open_exe {H : Type} {enc : TypeId × Value → H} {w : World} {r : Reach} {b0 : Nat} {v : Value} {d : DataW H} {p : List MemPlace} (hv : Value.okWide Try.prog w r b0 25 v)
    (h : DataW.Trod enc Try.prog w 0 (fun _ => true) true 25 v d p) :
    ∃ (A : Option Addr) (cap : Nat) (l : List Int) (b : ByteArray) (c e : Int), v = .agg #[.slice A l.length cap, .string b, .int .i64 c, .int .u32 e] ∧ Kd.C (Kd.int .u32) w A l.length l ∧ l.length ≤ cap ∧
      (∀ x ∈ l, (Lit.int .u32 x).wf = true) ∧ (Lit.int .i64 c).wf = true ∧ (Lit.int .u32 e).wf = true := by
  obtain ⟨v0, v1, v2, v3, y0, y1, y2, y3, n, rfl, _, _, h0, h1, h2, h3⟩ := open_agg4 Try.underlying25 (by kernel_rfl) (by kernel_rfl) hv h
  obtain ⟨e, e3, _, w3⟩ := DataW.trod_int Try.underlying23 h3
  obtain ⟨c, e2, _, w2⟩ := DataW.trod_int Try.underlying3 h2
  obtain ⟨b, e1, _, _⟩ := DataW.trod_string Try.underlying9 h1
  simp only [List.cons.injEq, and_true] at e1 e2 e3
  subst e1 e2 e3
  have key : ∃ (A : Option Addr) (len cap : Nat) (zs : List Int), v0 = .slice A len cap ∧ ((A = none ∧ len = 0 ∧ cap = 0 ∧ zs = []) ∨ ∃ x, A = some x ∧ len ≤ cap ∧ cap ≤ maxLen ∧ zs.length = cap ∧ (∀ i, i < zs.length → w.cell? (x.add i) = some (.int .u32 (zs.getD i 0))) ∧ ∀ n ∈ zs, (Lit.int .u32 n).wf = true) := by
    rcases open_ints Try.underlying22 Try.underlying23 (by kernel_rfl) h0 with ⟨hcs, _⟩ | ⟨x, l, c, zs, hcs, _, hl, hm, hz, _, hcell, hwz⟩
    · simp only [List.cons.injEq, and_true] at hcs
      exact ⟨none, 0, 0, [], hcs, Or.inl ⟨rfl, rfl, rfl, rfl⟩⟩
    · simp only [List.cons.injEq, and_true] at hcs
      exact ⟨some x, l, c, zs, hcs, Or.inr ⟨x, rfl, hl, hm, by simpa using hz, hcell, hwz⟩⟩
  obtain ⟨A, len, cap, zs, rfl, hz⟩ := key
  obtain ⟨l, rfl, hr, _, hw, hc⟩ := ReadsInt.ofRowC hz
  exact ⟨A, cap, l, b, c, e, rfl, Kd.C_of_reads (d := (0 : Int)) (h1 := fun _ => rfl) hr, hc, hw, w2, w3⟩
theorem u32_wf {e : Int} (h : (Lit.int .u32 e).wf = true) : 0 ≤ e ∧ e < 4294967296 := by
  simp only [Lit.wf, IntKind.min, IntKind.max, IntKind.signed, IntKind.bits, Bool.and_eq_true, decide_eq_true_eq] at h
  simp at h
  omega
end Go.Proofs.Ytgjhabeoaejcdaa.Ex
