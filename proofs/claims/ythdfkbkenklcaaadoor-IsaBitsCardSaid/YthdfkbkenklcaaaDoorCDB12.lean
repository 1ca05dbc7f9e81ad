-- Printed for this claim and put together by wip/tools/prune.py.
import Derived.Test.YthdfkbkenklcaaaDoorCards
import Derived.Test.YthdfkbkenklcaaaDoorTie
import Derived.SevenTiedAt
import Derived.Test.YthdfkbkenklcaaaDoorCDB1
import Derived.Test.YthdfkbkenklcaaaDoorCDB6
import Derived.Test.YthdfkbkenklcaaaDoorCDB8
import Derived.Test.YthdfkbkenklcaaaDoorCDB10
import Derived.Test.YthdfkbkenklcaaaDoorCDB11
set_option linter.unusedVariables false
set_option linter.unusedSimpArgs false
section
set_option linter.unusedSimpArgs false
set_option linter.unusedVariables false
namespace Go.Proofs.YthdfkbkenklcaaaDoor.Q
open Go.RowKit Go.Proofs.YthdfkbkenklcaaaDoor.P Go.Proofs.YthdfkbkenklcaaaDoorW.PrintWords Go.Proofs.YthdfkbkenklcaaaDoorW.PrintLast Go.Proofs.YthdfkbkenklcaaaDoorW.PrintMore
theorem al1 : encOf 1 1 2 3 0 = (71876608, 0) := by decide +kernel
theorem al2 : encOf 31 0 0 0 5 = (2080374789, 0) := by decide +kernel
theorem al3 : decOf 0 = (0, 0, 0, 0, 0, false) := by decide +kernel
theorem al4 : (txt 20 1 2 0 4).toList = ([108, 119, 32, 114, 49, 44, 32, 52, 40, 114, 50, 41] : List UInt8) := by decide +kernel
theorem alive_ev : Ev (fun k => hibernaclelaw10_alive.f k) true := by
  unfold hibernaclelaw10_alive.f
  have h1 := enc_ev 1 1 2 3 0 (by omega) (by omega) (by omega) (by omega) (by omega)
  have h2 := enc_ev 31 0 0 0 5 (by omega) (by omega) (by omega) (by omega) (by omega)
  have h3 := dec_all 0 (by omega) (by omega)
  have h4 := text_ev 20 1 2 0 4 (by omega) (by omega) (by omega) (by omega) (by omega) (by omega) (by omega) (by omega) (by omega) (by omega)
  rw [al1] at h1
  rw [al2] at h2
  rw [al3] at h3
  refine Ev.bind h1 (Ev.bind h2 (Ev.bind h3 ?_))
  simp only [if_pos, Bool.false_eq_true, if_false]
  refine Ev.bind h4 ?_
  rw [al4]
  exact Ev.now _
theorem ref_dec_ev (w : Int) (w0 : 0 ≤ w) (w1 : w < 4294967296) : Ev (fun k => hibernacleref10_Dec.f k w) (decOf w) := by
  have t1 : Int.tdiv w 67108864 = w / 67108864 := Int.tdiv_eq_ediv_of_nonneg w0
  have t2 : Int.tdiv w 4194304 = w / 4194304 := Int.tdiv_eq_ediv_of_nonneg w0
  have t3 : Int.tdiv w 262144 = w / 262144 := Int.tdiv_eq_ediv_of_nonneg w0
  have t4 : Int.tdiv w 16384 = w / 16384 := Int.tdiv_eq_ediv_of_nonneg w0
  have t5 : Int.tmod w 65536 = w % 65536 := Int.tmod_eq_emod_of_nonneg w0
  have y1 : (w / 67108864) % 256 = w / 67108864 := by omega
  have y5 : wrap32 (w % 65536) = w % 65536 := by unfold wrap32; omega
  unfold hibernacleref10_Dec.f decOf parts
  simp only [t1, t2, t3, t4, t5, y1, y5]
  have he := fun c n (c0 : 0 ≤ c) => ref_enc_ev (w / 67108864) ((w / 4194304) % 16) ((w / 262144) % 16) c n (by omega) (by omega) (by omega) (by omega) c0
  refine Ev.bind (ref_form (w / 67108864) (by omega) (by omega)) ?_
  by_cases hr : frm (w / 67108864) = 114
  · have e1 : cOf (w / 67108864) w = (w / 16384) % 16 := by unfold cOf; rw [if_pos hr]
    have e2 : numOf (w / 67108864) w = 0 := by unfold numOf; rw [if_pos hr]
    have e3 : rfm (w / 67108864) = 1 := by unfold rfm; rw [if_pos hr]
    rw [e1, e2, e3]
    exact Ev.congr (fun k => if_pos rfl) (dec_fin (he _ _ (by omega)))
  · have e1 : cOf (w / 67108864) w = 0 := by unfold cOf; rw [if_neg hr]
    have e2 : numOf (w / 67108864) w = if pl (w / 67108864) = true then w % 65536 else (w + 32768) % 65536 - 32768 := by unfold numOf; rw [if_neg hr]
    have e3 : rfm (w / 67108864) ≠ 1 := by
      unfold rfm
      rw [if_neg hr]
      split
      · decide
      · split
        · decide
        · split
          · decide
          · split <;> decide
    rw [e1, e2]
    refine Ev.congr (fun k => if_neg e3) ?_
    have J1 : ∀ n : Int, n - 65536 = wrap32 (n - 65536) → Ev (fun k => hibernacleref10_Dec.j0 k w true (w / 67108864) ((w / 4194304) % 16) ((w / 262144) % 16) 0 n) (if encOf (w / 67108864) ((w / 4194304) % 16) ((w / 262144) % 16) 0 (n - 65536) = (w, 0) then (w / 67108864, (w / 4194304) % 16, (w / 262144) % 16, 0, n - 65536, true) else (0, 0, 0, 0, 0, false)) := by
      intro n hn
      refine Ev.step (fun k => ?_) (dec_fin (he 0 (n - 65536) (by omega)))
      simp only [hibernacleref10_Dec.j0, ← hn]
      rw [if_pos trivial]
    have J0 : ∀ n : Int, Ev (fun k => hibernacleref10_Dec.j0 k w false (w / 67108864) ((w / 4194304) % 16) ((w / 262144) % 16) 0 n) (if encOf (w / 67108864) ((w / 4194304) % 16) ((w / 262144) % 16) 0 n = (w, 0) then (w / 67108864, (w / 4194304) % 16, (w / 262144) % 16, 0, n, true) else (0, 0, 0, 0, 0, false)) := by
      intro n
      refine Ev.step (fun k => ?_) (dec_fin (he 0 n (by omega)))
      simp only [hibernacleref10_Dec.j0]
      rw [if_neg Bool.false_ne_true]
    by_cases hx : w % 65536 > 32767
    · refine Ev.congr (fun k => if_pos hx) ?_
      simp only [ref_plain (w / 67108864) (by omega) (by omega), Option.bind_some]
      by_cases hp : pl (w / 67108864) = true
      · rw [hp, if_pos rfl]
        exact J0 _
      · have hp' : pl (w / 67108864) = false := by simpa using hp
        rw [hp', if_neg Bool.false_ne_true]
        have := J1 (w % 65536) (by unfold wrap32; omega)
        rw [show w % 65536 - 65536 = (w + 32768) % 65536 - 32768 by omega] at this
        exact this
    · refine Ev.congr (fun k => if_neg hx) ?_
      have : (if pl (w / 67108864) = true then w % 65536 else (w + 32768) % 65536 - 32768) = w % 65536 := by split <;> omega
      rw [this]
      exact J0 _
theorem decOf_cases (w : Int) (w0 : 0 ≤ w) (w1 : w < 4294967296) : (∃ o a b c n, decOf w = (o, a, b, c, n, true) ∧ encOf o a b c n = (w, 0) ∧ 0 ≤ o ∧ o < 256 ∧ 0 ≤ a ∧ 0 ≤ b ∧ 0 ≤ c) ∨ decOf w = (0, 0, 0, 0, 0, false) := by
  unfold decOf
  by_cases h : encOf (parts w).1 (parts w).2.1 (parts w).2.2.1 (parts w).2.2.2.1 (parts w).2.2.2.2 = (w, 0)
  · left
    rw [if_pos h]
    refine ⟨_, _, _, _, _, rfl, h, ?_, ?_, ?_, ?_, ?_⟩
    · show 0 ≤ w / 67108864; omega
    · show w / 67108864 < 256; omega
    · show 0 ≤ (w / 4194304) % 16; omega
    · show 0 ≤ (w / 262144) % 16; omega
    · show 0 ≤ cOf (w / 67108864) w
      unfold cOf; split <;> omega
  · right
    rw [if_neg h]
theorem IsaDec_ev (w : Int) (w0 : 0 ≤ w) (w1 : w < 4294967296) : Ev (fun k => hibernaclelaw10_IsaDec.f k w) true := by
  unfold hibernaclelaw10_IsaDec.f
  refine Ev.bind alive_ev ?_
  simp only [if_pos]
  refine Ev.bind (dec_all w w0 w1) ?_
  refine Ev.bind (ref_dec_ev w w0 w1) ?_
  rcases decOf_cases w w0 w1 with ⟨o, a, b, c, n, h, he, o0, o1, a0, b0, c0⟩ | h
  · have E := enc_ev o a b c n o0 o1 a0 b0 c0
    rw [he] at E
    simp only [h, beq_self_eq_true, Bool.not_true, Bool.or_false, Bool.false_eq_true, if_false, bne_self_eq_false]
    refine Ev.bind E ?_
    simp only [if_pos, beq_self_eq_true]
    exact Ev.now _
  · have E := enc_ev 0 0 0 0 0 (by omega) (by omega) (by omega) (by omega) (by omega)
    simp only [h, beq_self_eq_true, Bool.not_true, Bool.or_false, Bool.false_eq_true, if_false, bne_self_eq_false]
    refine Ev.bind E ?_
    simp only [Bool.and_self, if_pos]
    exact Ev.now _
theorem xor_bit (w : Int) (w0 : 0 ≤ w) (w1 : w < 4294967296) (j : Nat) (hj : j < 32) : 0 ≤ Go.bits .xor .u32 w (2 ^ j) ∧ Go.bits .xor .u32 w (2 ^ j) < 4294967296 ∧ Go.bits .xor .u32 w (2 ^ j) ≠ w := by
  have e : Go.bits .xor .u32 w (2 ^ j) = ((BitVec.ofInt 32 w ^^^ BitVec.ofInt 32 (2 ^ j)).toNat : Int) := by
    show IntKind.u32.wrap ((BitVec.ofInt 32 w ^^^ BitVec.ofInt 32 (2 ^ j)).toNat : Int) = _
    have := (BitVec.ofInt 32 w ^^^ BitVec.ofInt 32 (2 ^ j)).isLt
    rw [IntKind.wrap_u32]
    omega
  have hb : ∀ i : Fin 32, BitVec.ofInt 32 ((2 : Int) ^ i.val) ≠ 0#32 := by decide
  refine ⟨by rw [e]; omega, by rw [e]; have := (BitVec.ofInt 32 w ^^^ BitVec.ofInt 32 (2 ^ j)).isLt; omega, fun h => hb ⟨j, hj⟩ ?_⟩
  rw [e] at h
  have h2 : (BitVec.ofInt 32 w).toNat = w.toNat := by
    rw [BitVec.toNat_ofInt]
    omega
  have h3 : (BitVec.ofInt 32 w ^^^ BitVec.ofInt 32 (2 ^ j)).toNat = (BitVec.ofInt 32 w).toNat := by rw [h2]; omega
  have h4 : BitVec.ofInt 32 w ^^^ BitVec.ofInt 32 (2 ^ j) = BitVec.ofInt 32 w := BitVec.eq_of_toNat_eq h3
  have h5 : BitVec.ofInt 32 w ^^^ (BitVec.ofInt 32 w ^^^ BitVec.ofInt 32 (2 ^ j)) = 0#32 := by rw [h4, BitVec.xor_self]
  rw [← BitVec.xor_assoc, BitVec.xor_self, BitVec.zero_xor] at h5
  exact h5
end Go.Proofs.YthdfkbkenklcaaaDoor.Q
end
section
namespace Go.Proofs.YthdfkbkenklcaaaDoor.Q
open Go.Proofs.YthdfkbkenklcaaaDoor.P Go.Proofs.YthdfkbkenklcaaaDoorW.PrintWords
theorem IsaDec_row (w : Int) (h0 : 0 ≤ w) (h1 : w < 4294967296) : Ev (fun k => hibernaclelaw10_IsaDec.f k w) true := IsaDec_ev w h0 h1
end Go.Proofs.YthdfkbkenklcaaaDoor.Q
end
section
namespace Go.Proofs.YthdfkbkenklcaaaDoor.isaDec
set_option linter.unusedVariables false
set_option linter.unusedSimpArgs false
open Go.ChangeShapes Go.WideShapes Go.ChangeAt Go.RowKit Go.Proofs.YthdfkbkenklcaaaDoorW.PrintWords
open Go.ChangeMaps (open_string shut_string)
noncomputable def w0 (os : Os) : World := World.laidAll Tryd.prog os Ix.LL
theorem reads (os : Os) {H : Type} (enc : TypeId × Value → H) : ∃ places, DataW.whole enc Tryd.prog ((w0 os).forCall (fun _ _ => 0) ⟨#[], #[.int .u32 0], []⟩).memory Tryd.f4.params.toList Rows.isaDecSpec.vars false (#[.int .u32 0] : Array Value).toList 8 = some ([.lit (.int .u32 0)], [], places) :=
  ⟨[], by kernel_rfl⟩
set_option maxRecDepth 100000 in
theorem lifted (os : Os) (started : os.Started) (H : Type) (enc : TypeId × Value → H) (F : Stop.Interp) :
    ReturnsInHanded {} Tryd.checked os 4 .any ((OpenSpec.ofChange Rows.isaDecSpec).preRow enc Tryd.prog Tryd.f4 Rows.isaDecRow.domain false Rows.isaDecRow.laid) (((OpenSpec.ofChange Rows.isaDecSpec).at F).post enc Tryd.prog Tryd.f4 false true false false) := by
  obtain ⟨places, hx⟩ := reads os enc
  refine returnsInHanded_of_row (C := Tryd.checked) (s := OpenSpec.ofChange Rows.isaDecSpec) Ix.own started (by kernel_rfl) Tryd.func4
    (witness_row_at (enc := enc) (C := Tryd.checked) false (w0 os) #[.int .u32 0] (World.laidAll_os _ _ _) (by kernel_rfl) (by kernel_rfl) (by kernel_rfl)
      (OpenSpec.preRow_of_cond 8 hx (by kernel_rfl) (fun k hk => by cases hk) (by kernel_rfl) (Ix.laid_met os _))) ?_
  intro W base args ds gs before hval0 hW _ _ hsz0 hL hS _
  have hLd : P.Laid W := Ix.laid_of hL hS
  have hsz : (DataW.weightsEach Tryd.prog (Tryd.f4.params.toList ++ Rows.isaDecSpec.plain.varTypes Tryd.prog) (ds ++ gs)).all (· ≤ reachBytes) = true := hsz0
  have hval : ∀ (j : Nat) t v, Tryd.f4.params[j]? = some t → args[j]? = some v → Value.okWide Tryd.prog W .any base t v := hval0
  have hW' := hW
  obtain ⟨p, q, hA0, hV, rfl, hfz, hnd⟩ := hW
  have hA : DataW.TrodAll enc Tryd.prog W 0 (fun _ => true) true Tryd.f4.params.toList args.toList ds p := hA0
  rw [Tryd.params4] at hA hval hsz
  obtain ⟨v0, vs0, d0, ds0, p0, q0, hargs, rfl, rfl, h0, r0⟩ := trodAll_cons hA
  obtain ⟨rfl, rfl, rfl⟩ := trodAll_nil r0
  obtain rfl : args = #[v0] := by cases args; simp_all
  obtain ⟨rfl, rfl⟩ := trodVars_none hV
  have k0 := h0
  have lt0 : ∀ x ∈ p0, x.block < W.heap.size := by obtain ⟨m, hm⟩ := k0; exact DataW.trod_lt m _ _ _ hm
  obtain ⟨e0, rfl, -, -, w0⟩ := open_int Tryd.underlying25 (hval 0 25 v0 rfl rfl) h0
  have g0 := Ix.u32_wf w0
  clear hA0 hval0 hsz0 hsz
  obtain ⟨k, hk⟩ := (Q.IsaDec_row e0 g0.1 g0.2).rounds
  refine (P.hibernaclelaw10_IsaDec.calls k e0 true W (Aside0.mk hLd) hk).mono fun e W' ⟨he, bel⟩ => ?_
  subst he
  exact ⟨_, rfl, _, _, _, [], _, [], hW', trodAll_mk1 (shut_bool Tryd.underlying4 _), (trodAll_cons_mk (Below.trod Ix.laidOut (by kernel_rfl) (of_decide_eq_true (by kernel_rfl)) k0 bel lt0) trodAll_mk0), rfl, bel.frame _, fun h => by cases h⟩
theorem said : Rows.IsaDecSaid :=
  OpenClaim.holds_of_cond 4 Tryd.f4 rfl rfl rfl rfl rfl rfl rfl ⟨rfl, rfl, rfl, rfl, rfl⟩ rfl rfl rfl rfl rfl (by kernel_rfl) Tryd.func4 (by kernel_rfl)
    (of_decide_eq_true (by kernel_rfl)) (by unfold Func.isWrapper; first | (rw [if_pos (by decide +kernel)]; kernel_rfl) | (rw [if_neg (by decide +kernel)]; exact ⟨rfl, rfl⟩))
    (fun os started H enc _ F => by rw [OpenClaim.pre_eq_preRow]; exact lifted os started H enc F)
theorem plain (f : FuncId) (fn : Func) (hf : Tryd.pinned.checked.prog.funcNamed "hibernacle/hibernaclelaw10.IsaDec" = some f) (hfn : Tryd.pinned.checked.prog.funcs[f]? = some fn) :
    false = Tryd.pinned.checked.prog.looks [] ∧ ∀ (j : Nat) t, fn.params[j]? = some t → Tryd.pinned.checked.prog.wantsStandIn t = false := by
  obtain rfl : f = 4 := Option.some.inj ((show Tryd.prog.funcNamed "hibernacle/hibernaclelaw10.IsaDec" = some 4 by kernel_rfl).symm.trans hf) |>.symm
  obtain rfl : fn = Tryd.f4 := (Option.some.inj (Tryd.func4.symm.trans hfn)).symm
  refine ⟨by kernel_rfl, fun j t ht => ?_⟩
  rw [Tryd.params4] at ht
  have hm := Array.mem_of_getElem? ht
  simp only [List.mem_toArray, List.mem_cons, List.not_mem_nil, or_false] at hm
  subst hm
  exact (show Tryd.prog.wantsStandIn 25 = false by kernel_rfl)
theorem card : Rows.IsaDecCardSaid :=
  Claim7.holds_tied_plain_at .later [] _ _ _ _ said (fun _ h => by cases h) (by kernel_rfl) (fun _ h => by cases h) isaDec_row_tie rfl ⟨rfl, rfl⟩ (by kernel_rfl) rfl plain (by kernel_rfl)
end Go.Proofs.YthdfkbkenklcaaaDoor.isaDec
namespace Go.Proofs.YthdfkbkenklcaaaDoor
theorem isaDec_holds : Rows.IsaDecCardSaid := isaDec.card
#print axioms isaDec_holds
end Go.Proofs.YthdfkbkenklcaaaDoor
end
section
set_option linter.unusedSimpArgs false
namespace Go.Proofs.YthdfkbkenklcaaaDoor.Q
open Go.RowKit Go.Proofs.YthdfkbkenklcaaaDoor.P Go.Proofs.YthdfkbkenklcaaaDoorW.PrintWords Go.Proofs.YthdfkbkenklcaaaDoorW.PrintLast Go.Proofs.YthdfkbkenklcaaaDoorW.PrintMore
theorem shl_pow (j : Int) (h0 : 0 ≤ j) (h1 : j < 32) : shl .u32 1 j = 2 ^ j.toNat := by
  unfold shl
  have e : IntKind.u32.bits = 32 := rfl
  rw [e, Nat.min_eq_left (by omega), Int.one_mul, IntKind.wrap_u32]
  have h : ∀ i : Fin 32, (2 : Int) ^ i.val % 4294967296 = 2 ^ i.val := by decide
  exact h ⟨j.toNat, by omega⟩
theorem IsaBits_row (w : Int) (h0 : 0 ≤ w) (h1 : w < 4294967296) (b : Int) (b0 : 0 ≤ b) (b1 : b < 256) : Ev (fun k => hibernaclelaw10_IsaBits.f k w b) true := by
  have t : Int.tmod b 32 = b % 32 := Int.tmod_eq_emod_of_nonneg b0
  unfold hibernaclelaw10_IsaBits.f
  refine Ev.bind alive_ev ?_
  simp only [if_pos, t]
  refine Ev.bind (dec_all w h0 h1) ?_
  rw [shl_pow (b % 32) (by omega) (by omega)]
  obtain ⟨x0, x1, x2⟩ := xor_bit w h0 h1 (b % 32).toNat (by omega)
  refine Ev.congr (fun k => if_pos (by omega)) ?_
  refine Ev.bind (dec_all _ x0 x1) ?_
  rcases decOf_cases w h0 h1 with ⟨o, a, c, d, n, h, he, _⟩ | h
  · rcases decOf_cases _ x0 x1 with ⟨o', a', c', d', n', h', he', _⟩ | h'
    · simp only [h, h', if_pos]
      have key : (!(o == o') || (!(a == a') || (!(c == c') || (!(d == d') || !(n == n'))))) = true := by
        cases hx : (!(o == o') || (!(a == a') || (!(c == c') || (!(d == d') || !(n == n'))))) with
        | true => rfl
        | false =>
          exfalso
          simp only [Bool.or_eq_false_iff, Bool.not_eq_false', beq_iff_eq] at hx
          obtain ⟨rfl, rfl, rfl, rfl, rfl⟩ := hx
          rw [he] at he'
          exact x2 (Prod.mk.inj he').1.symm
      rw [key]
      exact Ev.now _
    · simp only [h, h', if_pos, Bool.false_eq_true, if_false]
      exact Ev.now _
  · simp only [h, Bool.false_eq_true, if_false]
    exact Ev.now _
end Go.Proofs.YthdfkbkenklcaaaDoor.Q
end
section
namespace Go.Proofs.YthdfkbkenklcaaaDoor.isaBits
set_option linter.unusedVariables false
set_option linter.unusedSimpArgs false
open Go.ChangeShapes Go.WideShapes Go.ChangeAt Go.RowKit Go.Proofs.YthdfkbkenklcaaaDoorW.PrintWords
open Go.ChangeMaps (open_string shut_string)
noncomputable def w0 (os : Os) : World := World.laidAll Tryd.prog os Ix.LL
theorem reads (os : Os) {H : Type} (enc : TypeId × Value → H) : ∃ places, DataW.whole enc Tryd.prog ((w0 os).forCall (fun _ _ => 0) ⟨#[], #[.int .u32 0, .int .u8 0], []⟩).memory Tryd.f6.params.toList Rows.isaBitsSpec.vars false (#[.int .u32 0, .int .u8 0] : Array Value).toList 8 = some ([.lit (.int .u32 0), .lit (.int .u8 0)], [], places) :=
  ⟨[], by kernel_rfl⟩
set_option maxRecDepth 100000 in
theorem lifted (os : Os) (started : os.Started) (H : Type) (enc : TypeId × Value → H) (F : Stop.Interp) :
    ReturnsInHanded {} Tryd.checked os 6 .any ((OpenSpec.ofChange Rows.isaBitsSpec).preRow enc Tryd.prog Tryd.f6 Rows.isaBitsRow.domain false Rows.isaBitsRow.laid) (((OpenSpec.ofChange Rows.isaBitsSpec).at F).post enc Tryd.prog Tryd.f6 false true false false) := by
  obtain ⟨places, hx⟩ := reads os enc
  refine returnsInHanded_of_row (C := Tryd.checked) (s := OpenSpec.ofChange Rows.isaBitsSpec) Ix.own started (by kernel_rfl) Tryd.func6
    (witness_row_at (enc := enc) (C := Tryd.checked) false (w0 os) #[.int .u32 0, .int .u8 0] (World.laidAll_os _ _ _) (by kernel_rfl) (by kernel_rfl) (by kernel_rfl)
      (OpenSpec.preRow_of_cond 8 hx (by kernel_rfl) (fun k hk => by cases hk) (by kernel_rfl) (Ix.laid_met os _))) ?_
  intro W base args ds gs before hval0 hW _ _ hsz0 hL hS _
  have hLd : P.Laid W := Ix.laid_of hL hS
  have hsz : (DataW.weightsEach Tryd.prog (Tryd.f6.params.toList ++ Rows.isaBitsSpec.plain.varTypes Tryd.prog) (ds ++ gs)).all (· ≤ reachBytes) = true := hsz0
  have hval : ∀ (j : Nat) t v, Tryd.f6.params[j]? = some t → args[j]? = some v → Value.okWide Tryd.prog W .any base t v := hval0
  have hW' := hW
  obtain ⟨p, q, hA0, hV, rfl, hfz, hnd⟩ := hW
  have hA : DataW.TrodAll enc Tryd.prog W 0 (fun _ => true) true Tryd.f6.params.toList args.toList ds p := hA0
  rw [Tryd.params6] at hA hval hsz
  obtain ⟨v0, vs0, d0, ds0, p0, q0, hargs, rfl, rfl, h0, r0⟩ := trodAll_cons hA
  obtain ⟨v1, vs1, d1, ds1, p1, q1, rfl, rfl, rfl, h1, r1⟩ := trodAll_cons r0
  obtain ⟨rfl, rfl, rfl⟩ := trodAll_nil r1
  obtain rfl : args = #[v0, v1] := by cases args; simp_all
  obtain ⟨rfl, rfl⟩ := trodVars_none hV
  have k0 := h0
  have lt0 : ∀ x ∈ p0, x.block < W.heap.size := by obtain ⟨m, hm⟩ := k0; exact DataW.trod_lt m _ _ _ hm
  have k1 := h1
  have lt1 : ∀ x ∈ p1, x.block < W.heap.size := by obtain ⟨m, hm⟩ := k1; exact DataW.trod_lt m _ _ _ hm
  obtain ⟨e0, rfl, -, -, w0⟩ := open_int Tryd.underlying25 (hval 0 25 v0 rfl rfl) h0
  have g0 := Ix.u32_wf w0
  obtain ⟨e1, rfl, -, -, w1⟩ := open_int Tryd.underlying5 (hval 1 5 v1 rfl rfl) h1
  have g1 := Ix.u8_wf w1
  clear hA0 hval0 hsz0 hsz
  obtain ⟨k, hk⟩ := (Q.IsaBits_row e0 g0.1 g0.2 e1 g1.1 g1.2).rounds
  refine (P.hibernaclelaw10_IsaBits.calls k e0 e1 true W (Aside0.mk hLd) hk).mono fun e W' ⟨he, bel⟩ => ?_
  subst he
  exact ⟨_, rfl, _, _, _, [], _, [], hW', trodAll_mk1 (shut_bool Tryd.underlying4 _), (trodAll_cons_mk (Below.trod Ix.laidOut (by kernel_rfl) (of_decide_eq_true (by kernel_rfl)) k0 bel lt0) (trodAll_cons_mk (Below.trod Ix.laidOut (by kernel_rfl) (of_decide_eq_true (by kernel_rfl)) k1 bel lt1) trodAll_mk0)), rfl, bel.frame _, fun h => by cases h⟩
theorem said : Rows.IsaBitsSaid :=
  OpenClaim.holds_of_cond 6 Tryd.f6 rfl rfl rfl rfl rfl rfl rfl ⟨rfl, rfl, rfl, rfl, rfl⟩ rfl rfl rfl rfl rfl (by kernel_rfl) Tryd.func6 (by kernel_rfl)
    (of_decide_eq_true (by kernel_rfl)) (by unfold Func.isWrapper; first | (rw [if_pos (by decide +kernel)]; kernel_rfl) | (rw [if_neg (by decide +kernel)]; exact ⟨rfl, rfl⟩))
    (fun os started H enc _ F => by rw [OpenClaim.pre_eq_preRow]; exact lifted os started H enc F)
theorem plain (f : FuncId) (fn : Func) (hf : Tryd.pinned.checked.prog.funcNamed "hibernacle/hibernaclelaw10.IsaBits" = some f) (hfn : Tryd.pinned.checked.prog.funcs[f]? = some fn) :
    false = Tryd.pinned.checked.prog.looks [] ∧ ∀ (j : Nat) t, fn.params[j]? = some t → Tryd.pinned.checked.prog.wantsStandIn t = false := by
  obtain rfl : f = 6 := Option.some.inj ((show Tryd.prog.funcNamed "hibernacle/hibernaclelaw10.IsaBits" = some 6 by kernel_rfl).symm.trans hf) |>.symm
  obtain rfl : fn = Tryd.f6 := (Option.some.inj (Tryd.func6.symm.trans hfn)).symm
  refine ⟨by kernel_rfl, fun j t ht => ?_⟩
  rw [Tryd.params6] at ht
  have hm := Array.mem_of_getElem? ht
  simp only [List.mem_toArray, List.mem_cons, List.not_mem_nil, or_false] at hm
  rcases hm with rfl | rfl
  · exact (show Tryd.prog.wantsStandIn 25 = false by kernel_rfl)
  · exact (show Tryd.prog.wantsStandIn 5 = false by kernel_rfl)
theorem card : Rows.IsaBitsCardSaid :=
  Claim7.holds_tied_plain_at .later [] _ _ _ _ said (fun _ h => by cases h) (by kernel_rfl) (fun _ h => by cases h) isaBits_row_tie rfl ⟨rfl, rfl⟩ (by kernel_rfl) rfl plain (by kernel_rfl)
end Go.Proofs.YthdfkbkenklcaaaDoor.isaBits
namespace Go.Proofs.YthdfkbkenklcaaaDoor
theorem isaBits_holds : Rows.IsaBitsCardSaid := isaBits.card
#print axioms isaBits_holds
end Go.Proofs.YthdfkbkenklcaaaDoor
end
