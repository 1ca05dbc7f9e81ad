/- Frames that no page has play no part in what an instruction does: for every input; the package-level tables start as the program's text lays them (the card's tie). -/
import Derived.Test.YtiklcpacbclpnaaDoorCards
import Derived.Test.YtiklcpacbclpnaaDoorTie
import Derived.SevenTiedAt
import Derived.Test.YtiklcpacbclpnaaDoorCUns8
namespace Go.Proofs.YtiklcpacbclpnaaDoor.topUnseen
set_option linter.unusedVariables false
set_option linter.unusedSimpArgs false
open Go.ChangeShapes Go.WideShapes Go.ChangeAt Go.RowKit Go.Proofs.YtiklcpacbclpnaaDoorW.PrintWords
open Go.ChangeMaps (open_string shut_string)
noncomputable def w0 (os : Os) : World := World.laidAll Tryd.prog os Ix.LL
def args0 : Array Value := #[.agg #[.int .u32 0, .int .u32 0, .int .u32 0, .int .u32 0, .int .u32 0, .int .u32 0, .int .u32 0, .int .u32 0, .int .u32 0, .int .u32 0, .int .u32 0, .int .u32 0, .int .u32 0, .int .u32 0, .int .u32 0, .int .u32 0, .int .u32 0], .agg #[.bool false, .bool false, .int .i64 0, .bool false, .bool false, .int .i64 0, .bool false, .bool false, .int .i64 0, .bool false, .bool false, .int .i64 0, .bool false, .bool false, .int .i64 0, .bool false, .bool false, .int .i64 0, .bool false, .bool false, .int .i64 0, .bool false, .bool false, .int .i64 0, .bool false, .bool false, .int .i64 0, .bool false, .bool false, .int .i64 0, .bool false, .bool false, .int .i64 0, .bool false, .bool false, .int .i64 0, .bool false, .bool false, .int .i64 0, .bool false, .bool false, .int .i64 0, .bool false, .bool false, .int .i64 0, .bool false, .bool false, .int .i64 0], .slice none 0 0, .int .u8 0, .int .u8 0]
theorem reads (os : Os) {H : Type} (enc : TypeId × Value → H) : ∃ places, DataW.whole enc Tryd.prog ((w0 os).forCall (fun _ _ => 0) ⟨#[], args0, []⟩).memory Tryd.f4.params.toList Rows.topUnseenSpec.vars false args0.toList 8 = some ([.agg [.agg [.lit (.int .u32 0), .lit (.int .u32 0), .lit (.int .u32 0), .lit (.int .u32 0), .lit (.int .u32 0), .lit (.int .u32 0), .lit (.int .u32 0), .lit (.int .u32 0), .lit (.int .u32 0), .lit (.int .u32 0), .lit (.int .u32 0), .lit (.int .u32 0), .lit (.int .u32 0), .lit (.int .u32 0), .lit (.int .u32 0), .lit (.int .u32 0)], .lit (.int .u32 0)], .agg [.agg [.lit (.bool false), .lit (.bool false), .lit (.int .i64 0)], .agg [.lit (.bool false), .lit (.bool false), .lit (.int .i64 0)], .agg [.lit (.bool false), .lit (.bool false), .lit (.int .i64 0)], .agg [.lit (.bool false), .lit (.bool false), .lit (.int .i64 0)], .agg [.lit (.bool false), .lit (.bool false), .lit (.int .i64 0)], .agg [.lit (.bool false), .lit (.bool false), .lit (.int .i64 0)], .agg [.lit (.bool false), .lit (.bool false), .lit (.int .i64 0)], .agg [.lit (.bool false), .lit (.bool false), .lit (.int .i64 0)], .agg [.lit (.bool false), .lit (.bool false), .lit (.int .i64 0)], .agg [.lit (.bool false), .lit (.bool false), .lit (.int .i64 0)], .agg [.lit (.bool false), .lit (.bool false), .lit (.int .i64 0)], .agg [.lit (.bool false), .lit (.bool false), .lit (.int .i64 0)], .agg [.lit (.bool false), .lit (.bool false), .lit (.int .i64 0)], .agg [.lit (.bool false), .lit (.bool false), .lit (.int .i64 0)], .agg [.lit (.bool false), .lit (.bool false), .lit (.int .i64 0)], .agg [.lit (.bool false), .lit (.bool false), .lit (.int .i64 0)]], .nil, .lit (.int .u8 0), .lit (.int .u8 0)], [], places) :=
  ⟨[], by kernel_rfl⟩
set_option maxHeartbeats 8000000 in
set_option maxRecDepth 100000 in
theorem lifted (os : Os) (started : os.Started) (H : Type) (enc : TypeId × Value → H) (F : Stop.Interp) :
    ReturnsInHanded {} Tryd.checked os 4 .any ((OpenSpec.ofChange Rows.topUnseenSpec).preRow enc Tryd.prog Tryd.f4 Rows.topUnseenRow.domain false Rows.topUnseenRow.laid) (((OpenSpec.ofChange Rows.topUnseenSpec).at F).post enc Tryd.prog Tryd.f4 false true false false) := by
  obtain ⟨places, hx⟩ := reads os enc
  refine returnsInHanded_of_row (C := Tryd.checked) (s := OpenSpec.ofChange Rows.topUnseenSpec) Ix.own started (by kernel_rfl) Tryd.func4
    (witness_row_at (enc := enc) (C := Tryd.checked) false (w0 os) args0 (World.laidAll_os _ _ _) (by kernel_rfl) (by kernel_rfl) (by kernel_rfl)
      (OpenSpec.preRow_of_cond 8 hx (by kernel_rfl) (fun k hk => by cases hk) (by kernel_rfl) (Ix.laid_met os _))) ?_
  intro W base args ds gs before hval0 hW _ _ hsz0 hL hS _
  have hLd : P.Laid W := Ix.laid_of hS
  have hval : ∀ (j : Nat) t v, Tryd.f4.params[j]? = some t → args[j]? = some v → Value.okWide Tryd.prog W .any base t v := hval0
  have hW' := hW
  obtain ⟨p, q, hA0, hV, rfl, hfz, hnd⟩ := hW
  have hA : DataW.TrodAll enc Tryd.prog W 0 (fun _ => true) true Tryd.f4.params.toList args.toList ds p := hA0
  rw [Tryd.params4] at hA hval
  obtain ⟨v0, vs0, d0, ds0, p0, q0, hargs, rfl, rfl, h0, r0⟩ := trodAll_cons hA
  obtain ⟨v1, vs1, d1, ds1, p1, q1, rfl, rfl, rfl, h1, r1⟩ := trodAll_cons r0
  obtain ⟨v2, vs2, d2, ds2, p2, q2, rfl, rfl, rfl, h2, r2⟩ := trodAll_cons r1
  obtain ⟨v3, vs3, d3, ds3, p3, q3, rfl, rfl, rfl, h3, r3⟩ := trodAll_cons r2
  obtain ⟨v4, vs4, d4, ds4, p4, q4, rfl, rfl, rfl, h4, r4⟩ := trodAll_cons r3
  obtain ⟨rfl, rfl, rfl⟩ := trodAll_nil r4
  obtain rfl : args = #[v0, v1, v2, v3, v4] := by cases args; simp_all
  obtain ⟨rfl, rfl⟩ := trodVars_none hV
  have k0 := h0
  have lt0 : ∀ x ∈ p0, x.block < W.heap.size := by obtain ⟨m, hm⟩ := k0; exact DataW.trod_lt m _ _ _ hm
  have k1 := h1
  have lt1 : ∀ x ∈ p1, x.block < W.heap.size := by obtain ⟨m, hm⟩ := k1; exact DataW.trod_lt m _ _ _ hm
  have k2 := h2
  have lt2 : ∀ x ∈ p2, x.block < W.heap.size := by obtain ⟨m, hm⟩ := k2; exact DataW.trod_lt m _ _ _ hm
  have k3 := h3
  have lt3 : ∀ x ∈ p3, x.block < W.heap.size := by obtain ⟨m, hm⟩ := k3; exact DataW.trod_lt m _ _ _ hm
  have k4 := h4
  have lt4 : ∀ x ∈ p4, x.block < W.heap.size := by obtain ⟨m, hm⟩ := k4; exact DataW.trod_lt m _ _ _ hm
  obtain ⟨R, pc, rfl, hR, hp⟩ := Ix.open_cpu (hval 0 25 v0 rfl rfl) h0
  obtain ⟨s, rfl, hs, hfr⟩ := Ix.open_space (hval 1 29 v1 rfl rfl) h1
  obtain ⟨A, c, l, rfl, hC, hc, hl⟩ := Ix.open_frames (hval 2 30 v2 rfl rfl) h2
  obtain ⟨fl, rfl⟩ := okWide_int Tryd.underlying5 (hval 3 5 v3 rfl rfl)
  obtain ⟨n, rfl⟩ := okWide_int Tryd.underlying5 (hval 4 5 v4 rfl rfl)
  obtain ⟨fuel4, hf4⟩ := h4
  obtain ⟨n', e4, _, wn⟩ := DataW.trod_int Tryd.underlying5 hf4
  obtain rfl : n = n' := by simpa [Value.cells] using e4
  have hn := Ix.u8_wf wn
  refine (P.unseen_calls R pc s A c l fl n W hR hp hs hfr hC hc hLd hn.1 hn.2 hl).mono fun e W' ⟨he, bel⟩ => ?_
  subst he
  exact ⟨_, rfl, _, _, _, [], _, [], hW', trodAll_mk1 (shut_bool Tryd.underlying4 _), (trodAll_cons_mk (Below.trod Ix.laidOut (by kernel_rfl) (of_decide_eq_true (by kernel_rfl)) k0 bel lt0) (trodAll_cons_mk (Below.trod Ix.laidOut (by kernel_rfl) (of_decide_eq_true (by kernel_rfl)) k1 bel lt1) (trodAll_cons_mk (Below.trod Ix.laidOut (by kernel_rfl) (of_decide_eq_true (by kernel_rfl)) k2 bel lt2) (trodAll_cons_mk (Below.trod Ix.laidOut (by kernel_rfl) (of_decide_eq_true (by kernel_rfl)) k3 bel lt3) (trodAll_cons_mk (Below.trod Ix.laidOut (by kernel_rfl) (of_decide_eq_true (by kernel_rfl)) k4 bel lt4) trodAll_mk0))))), rfl, bel.frame _, fun h => by cases h⟩
theorem said : Rows.TopUnseenSaid :=
  OpenClaim.holds_of_cond 4 Tryd.f4 rfl rfl rfl rfl rfl rfl rfl ⟨rfl, rfl, rfl, rfl, rfl⟩ rfl rfl rfl rfl rfl (by kernel_rfl) Tryd.func4 (by kernel_rfl)
    (of_decide_eq_true (by kernel_rfl)) (by unfold Func.isWrapper; first | (rw [if_pos (by decide +kernel)]; kernel_rfl) | (rw [if_neg (by decide +kernel)]; exact ⟨rfl, rfl⟩))
    (fun os started H enc _ F => by rw [OpenClaim.pre_eq_preRow]; exact lifted os started H enc F)
theorem plain (f : FuncId) (fn : Func) (hf : Tryd.pinned.checked.prog.funcNamed "hibernacle/hibernacletop.TopUnseen" = some f) (hfn : Tryd.pinned.checked.prog.funcs[f]? = some fn) :
    false = Tryd.pinned.checked.prog.looks [] ∧ ∀ (j : Nat) t, fn.params[j]? = some t → Tryd.pinned.checked.prog.wantsStandIn t = false := by
  obtain rfl : f = 4 := Option.some.inj ((show Tryd.prog.funcNamed "hibernacle/hibernacletop.TopUnseen" = some 4 by kernel_rfl).symm.trans hf) |>.symm
  obtain rfl : fn = Tryd.f4 := (Option.some.inj (Tryd.func4.symm.trans hfn)).symm
  refine ⟨by kernel_rfl, fun j t ht => ?_⟩
  rw [Tryd.params4] at ht
  have hm := Array.mem_of_getElem? ht
  simp only [List.mem_toArray, List.mem_cons, List.not_mem_nil, or_false] at hm
  rcases hm with rfl | rfl | rfl | rfl | rfl
  · exact (show Tryd.prog.wantsStandIn 25 = false by kernel_rfl)
  · exact (show Tryd.prog.wantsStandIn 29 = false by kernel_rfl)
  · exact (show Tryd.prog.wantsStandIn 30 = false by kernel_rfl)
  · exact (show Tryd.prog.wantsStandIn 5 = false by kernel_rfl)
  · exact (show Tryd.prog.wantsStandIn 5 = false by kernel_rfl)
theorem card : Rows.TopUnseenCardSaid :=
  Claim7.holds_tied_plain_at .later [] _ _ _ _ said (fun _ h => by cases h) (by kernel_rfl) (fun _ h => by cases h) topUnseen_row_tie rfl ⟨rfl, rfl⟩ (by kernel_rfl) rfl plain (by kernel_rfl)
end Go.Proofs.YtiklcpacbclpnaaDoor.topUnseen
namespace Go.Proofs.YtiklcpacbclpnaaDoor
theorem topUnseen_holds : Rows.TopUnseenCardSaid := topUnseen.card
#print axioms topUnseen_holds
end Go.Proofs.YtiklcpacbclpnaaDoor
