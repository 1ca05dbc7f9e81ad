/- Instructions that are put into a program come out of its first page as they went in: for every row of instructions, without a condition of ours. -/
import Derived.Deep.Slices
import Derived.Test.YtgjhabeoaejcdaaMWords1
import Derived.Test.YtgjhabeoaejcdaaMWords8
import Derived.Test.YtgjhabeoaejcdaaMWords9
namespace Go.Proofs.Ytgjhabeoaejcdaa.exeWords
set_option linter.unusedVariables false
set_option linter.unusedSimpArgs false
open Go.ChangeShapes Go.WideShapes Go.ChangeAt Go.RowKit Go.Proofs.YtgjhabeoaejcdaaW.PrintWords Go.Proofs.Ytgjhabeoaejcdaa.P
theorem u8_wf {e : Int} (h : (Lit.int .u8 e).wf = true) : 0 ≤ e ∧ e < 256 := by
  simp only [Lit.wf, IntKind.min, IntKind.max, IntKind.signed, IntKind.bits, Bool.and_eq_true, decide_eq_true_eq] at h
  simp at h
  omega
theorem open_one {H : Type} {enc : TypeId × Value → H} {w : World} {n : Nat} {cs : List Value} {x : DataW H × List MemPlace} (h : DataW.trod enc Try.prog w 0 (fun _ => true) true n 49 cs = some x) :
    ∃ y : S49, cs = [.int .u8 y.f0, .int .u8 y.f1, .int .u8 y.f2, .int .u8 y.f3, .int .i32 y.f4] ∧ Q.insOk y := by
  obtain ⟨xs, m, rfl, _, hl, hs, hf⟩ := DataW.trod_struct Try.underlying49 h
  have hl5 : cs.length = 5 := hl.trans (by kernel_rfl)
  match cs, hl5 with
  | [v0, v1, v2, v3, v4], _ =>
    have one : ∀ (i : Nat) (f : Field) (k : IntKind) (v : Value), (#[{ name := "Op", type := 5, offset := 0, embedded := false, tag := "", pkgPath := "", byteOffset := 0 }, { name := "A", type := 5, offset := 1, embedded := false, tag := "", pkgPath := "", byteOffset := 1 }, { name := "B", type := 5, offset := 2, embedded := false, tag := "", pkgPath := "", byteOffset := 2 }, { name := "C", type := 5, offset := 3, embedded := false, tag := "", pkgPath := "", byteOffset := 3 }, { name := "Imm", type := 21, offset := 4, embedded := false, tag := "", pkgPath := "", byteOffset := 4 }] : Array Field)[i]? = some f →
        Try.prog.underlying f.type = some (.int k) → ([v0, v1, v2, v3, v4].drop f.offset).take (Try.prog.cellsOf f.type) = [v] → i < 5 → ∃ z, v = .int k z ∧ (Lit.int k z).wf = true := by
      intro i f k v hi hu hc h5
      have := hf i f hi
      rw [hc] at this
      have hlt : i < xs.length := by rw [hs]; exact h5
      have hx : xs[i]? = some xs[i] := List.getElem?_eq_getElem hlt
      rw [hx] at this
      obtain ⟨z, e1, _, e3⟩ := DataW.trod_int hu this
      exact ⟨z, by simpa using e1, e3⟩
    have c5 : Try.prog.cellsOf 5 = 1 := by kernel_rfl
    have c21 : Try.prog.cellsOf 21 = 1 := by kernel_rfl
    obtain ⟨y0, rfl, w0⟩ := one 0 _ .u8 v0 rfl Try.underlying5 (by show List.take (Try.prog.cellsOf 5) _ = _; rw [c5]; rfl) (by omega)
    obtain ⟨y1, rfl, w1⟩ := one 1 _ .u8 v1 rfl Try.underlying5 (by show List.take (Try.prog.cellsOf 5) _ = _; rw [c5]; rfl) (by omega)
    obtain ⟨y2, rfl, w2⟩ := one 2 _ .u8 v2 rfl Try.underlying5 (by show List.take (Try.prog.cellsOf 5) _ = _; rw [c5]; rfl) (by omega)
    obtain ⟨y3, rfl, w3⟩ := one 3 _ .u8 v3 rfl Try.underlying5 (by show List.take (Try.prog.cellsOf 5) _ = _; rw [c5]; rfl) (by omega)
    obtain ⟨y4, rfl, w4⟩ := one 4 _ .i32 v4 rfl Try.underlying21 (by show List.take (Try.prog.cellsOf 21) _ = _; rw [c21]; rfl) (by omega)
    exact ⟨⟨y0, y1, y2, y3, y4⟩, rfl, u8_wf w0, u8_wf w1, u8_wf w2, u8_wf w3⟩
theorem open_ins {H : Type} {enc : TypeId × Value → H} {w : World} {r : Reach} {b0 : Nat} {v : Value} {d : DataW H} {p : List MemPlace} (hv : Value.okWide Try.prog w r b0 45 v)
    (h : DataW.Trod enc Try.prog w 0 (fun _ => true) true 45 v d p) :
    ∃ (A : Option Addr) (cap : Nat) (l : List S49), v = .slice A l.length cap ∧ Kd.C k49 w A l.length l ∧ l.length ≤ cap ∧ ∀ x ∈ l, Q.insOk x := by
  obtain ⟨A, len, cap, rfl⟩ := okWide_slice Try.underlying45 hv
  obtain ⟨fuel, hf⟩ := h
  rcases Go.Deep.open_slice Try.underlying45 hf with ⟨hcs, _⟩ | ⟨a, len', cap', m, n, D, Pl, hcs, _, hl, hm, hmm, _, hel⟩
  · simp [Value.cells] at hcs
    obtain ⟨rfl, rfl, rfl⟩ := hcs
    exact ⟨none, 0, [], rfl, ⟨rfl, by simp, fun h => absurd h (by simp)⟩, Nat.le_refl _, fun x hx => by simp at hx⟩
  · simp [Value.cells] at hcs
    obtain ⟨rfl, rfl, rfl⟩ := hcs
    have c49 : Try.prog.cellsOf 49 = 5 := by kernel_rfl
    rw [c49] at hel
    have key : ∀ i, ∃ y : S49, i < m → (∀ j u, [Value.int .u8 y.f0, .int .u8 y.f1, .int .u8 y.f2, .int .u8 y.f3, .int .i32 y.f4][j]? = some u → w.cell? (a.add (i * 5 + j)) = some u) ∧ Q.insOk y := by
      intro i
      by_cases hi : i < m
      · obtain ⟨cs', h1, h2⟩ := hel i hi
        obtain ⟨y, rfl, hy⟩ := open_one h2
        obtain ⟨_, _, h5⟩ := World.cells?_some h1
        refine ⟨y, fun _ => ⟨fun j u hu => ?_, hy⟩⟩
        have hj : j < 5 := by
          rcases Nat.lt_or_ge j 5 with hj | hj
          · exact hj
          · rw [List.getElem?_eq_none (by simpa using hj)] at hu
            cases hu
        have := h5 j hj
        rw [Addr.add_add, hu] at this
        exact this
      · exact ⟨z49, fun h => absurd h hi⟩
    obtain ⟨F, hF⟩ := Classical.skolem.1 key
    have hlm : len ≤ m := by rw [hmm]; simpa using hl
    have hlen : ((List.range len).map F).length = len := by simp
    refine ⟨some a, cap, (List.range len).map F, by rw [hlen], ?_, by rw [hlen]; exact hl, ?_⟩
    · rw [hlen]
      refine ⟨hlen, by have : maxLen = 9223372036854775807 := rfl; omega, fun _ => ⟨a, rfl, fun j p hj => ?_⟩⟩
      rw [List.getElem?_map, Option.map_eq_some_iff] at hj
      obtain ⟨q, hq, rfl⟩ := hj
      have hjl : j < len := by
        rcases Nat.lt_or_ge j len with hj | hj
        · exact hj
        · rw [List.getElem?_eq_none (by simpa using hj)] at hq
          cases hq
      rw [List.getElem?_eq_getElem (by simpa using hjl)] at hq
      simp at hq
      subst hq
      exact ⟨_, rfl, k49_mk w (F j), (hF j (by omega)).1⟩
    · intro x hx
      rw [List.mem_map] at hx
      obtain ⟨j, hj, rfl⟩ := hx
      rw [List.mem_range] at hj
      exact (hF j (by omega)).2
set_option maxRecDepth 100000 in
theorem lifted (os : Os) (started : os.Started) (H : Type) (enc : TypeId × Value → H) :
    ReturnsInHanded {} Try.checked os 8 .any (Rows.exeWordsSpec.pre6 enc Try.prog Try.f8 Rows.exeWordsRow.domain false) (Rows.exeWordsSpec.post enc Try.prog Try.f8 false true false false) := by
  refine returnsInHanded_of_change_sized (C := Try.checked) Ex.own started (by kernel_rfl) Try.func8
    (ChangeSpec.witness6 (enc := enc) (C := Try.checked) false ⟨#[], #[.slice none 0 0], []⟩ 8 (by kernel_rfl) (by kernel_rfl) (by kernel_rfl) (by kernel_rfl)) ?_
  intro W base args ds gs before hval0 hW hcnd hsz0 _
  have hval : ∀ (j : Nat) t v, Try.f8.params[j]? = some t → args[j]? = some v → Value.okWide Try.prog W .any base t v := hval0
  have hW' := hW
  obtain ⟨p, q, hA0, hV, rfl, hfz, hnd⟩ := hW
  have hA : DataW.TrodAll enc Try.prog W 0 (fun _ => true) true Try.f8.params.toList args.toList ds p := hA0
  rw [Try.params8] at hA hval
  obtain ⟨v0, vs0, d0, ds0, p0, q0, hargs, rfl, rfl, h0, r0⟩ := trodAll_cons hA
  obtain ⟨rfl, rfl, rfl⟩ := trodAll_nil r0
  obtain rfl : args = #[v0] := by cases args; simp_all
  obtain ⟨rfl, rfl⟩ := trodVars_none hV
  have k0 := h0
  have lt0 : ∀ x ∈ p0, x.block < W.heap.size := by obtain ⟨m, hm⟩ := k0; exact DataW.trod_lt m _ _ _ hm
  obtain ⟨A, cap, l, rfl, hr, hc, wl⟩ := open_ins (hval 0 45 v0 rfl rfl) h0
  clear hA0 hval0 hsz0
  obtain ⟨k, hk⟩ := (Q.ExeWords_ev l wl).rounds
  refine (P.hibernaclelaw12_ExeWords.calls k A cap l true W hr hc hk).mono fun e W' ⟨he, bel⟩ => ?_
  subst he
  exact ⟨_, rfl, _, _, _, [], _, [], hW', trodAll_mk1 (shut_bool Try.underlying4 _), (trodAll_cons_mk (Below.trod Ex.laidOut (by kernel_rfl) (of_decide_eq_true (by kernel_rfl)) k0 bel lt0) trodAll_mk0), rfl, bel.frame _, fun h => by cases h⟩
theorem over : Rows.exeWordsRow.holds Try.pinned (OpenSpec.ofChange Rows.exeWordsSpec) :=
  OpenClaim.holds_of_wide 8 Try.f8 rfl rfl rfl rfl rfl rfl rfl ⟨rfl, rfl, rfl, rfl, rfl⟩ rfl rfl rfl rfl rfl (by kernel_rfl) Try.func8 (by kernel_rfl)
    (of_decide_eq_true (by kernel_rfl)) (by unfold Func.isWrapper; first | (rw [if_pos (by decide +kernel)]; kernel_rfl) | (rw [if_neg (by decide +kernel)]; exact ⟨rfl, rfl⟩))
    (fun os started H enc _ => lifted os started H enc)
end Go.Proofs.Ytgjhabeoaejcdaa.exeWords
namespace Go.Proofs.Ytgjhabeoaejcdaa
theorem exeWords_holds : Rows.ExeWordsSaid := exeWords.over
#print axioms exeWords_holds
end Go.Proofs.Ytgjhabeoaejcdaa
