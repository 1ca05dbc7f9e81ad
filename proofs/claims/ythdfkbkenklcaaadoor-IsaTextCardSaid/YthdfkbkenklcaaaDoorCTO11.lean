-- Printed for this claim and put together by wip/tools/prune.py.
import Derived.Test.YthdfkbkenklcaaaDoorCards
import Derived.Test.YthdfkbkenklcaaaDoorTie
import Derived.SevenTiedAt
import Derived.Test.YthdfkbkenklcaaaDoorCTO1
import Derived.Test.YthdfkbkenklcaaaDoorCTO10
set_option linter.unusedVariables false
set_option linter.unusedSimpArgs false
section
set_option linter.unusedSimpArgs false
set_option linter.unusedVariables false
namespace Go.Proofs.YthdfkbkenklcaaaDoor.Q
open Go.RowKit Go.Proofs.YthdfkbkenklcaaaDoor.P Go.Proofs.YthdfkbkenklcaaaDoorW.PrintWords Go.Proofs.YthdfkbkenklcaaaDoorW.PrintLast Go.Proofs.YthdfkbkenklcaaaDoorW.PrintMore
def fnd : List ByteArray → ByteArray → Int → Int × Bool
  | [], _, _ => (0, false)
  | y :: ys, x, i => if y.toList = x.toList then (i + 1, true) else fnd ys x (i + 1)
theorem op_loop (x : ByteArray) : ∀ d i : Nat, i + d = 31 → Ev (fun k => isa_Op.l0 k x nmL 31 (i : Int)) (fnd (nmL.drop i) x (i : Int)) := by
  intro d
  induction d with
  | zero =>
    intro i hi
    have : i = 31 := by omega
    subst this
    refine Ev.step (f := fun _ => some (0, false)) (fun k => ?_) (Ev.now _)
    simp only [isa_Op.l0]
    rw [if_neg (by omega)]
  | succ d ih =>
    intro i hi
    have hl : i < nmL.length := by show i < 31; omega
    have e1 : wrap64 ((i : Int) + 1) = ((i + 1 : Nat) : Int) := by unfold wrap64; omega
    have e2 : rdOf ByteArray.empty nmL (i : Int) = nmL[i] := by unfold rdOf; rw [Int.toNat_natCast, List.getD_eq_getElem?_getD, List.getElem?_eq_getElem hl]; rfl
    have e3 : ((nmL.length : Nat) : Int) = 31 := rfl
    have e4 : ((i + 1 : Nat) : Int) % 256 = (i : Int) + 1 := by omega
    rw [List.drop_eq_getElem_cons hl]
    unfold fnd
    refine Ev.step (f := fun k => if (nmL[i]).toList = x.toList then some ((i : Int) + 1, true) else isa_Op.l0 k x nmL 31 ((i + 1 : Nat) : Int)) (fun k => ?_) ?_
    · simp only [isa_Op.l0, e1, e2, e3, e4]
      rw [if_pos (by omega), if_pos (by omega), if_pos (by omega)]
    · by_cases h : (nmL[i]).toList = x.toList
      · simp only [if_pos h]; exact Ev.now _
      · simp only [if_neg h]
        have := ih (i + 1) (by omega)
        rw [show ((i + 1 : Nat) : Int) = (i : Int) + 1 by omega] at this ⊢
        exact this
def opOf (x : ByteArray) : Int × Bool := fnd nmL x 0
theorem op_ev (x : ByteArray) : Ev (fun k => isa_Op.f k x) (opOf x) := by
  have Sp := split_eq
  unfold namesB at Sp
  unfold isa_Op.f
  rw [Sp]
  simp only [Option.bind_some]
  exact op_loop x 31 0 rfl
theorem ref_op_loop (x : ByteArray) : ∀ d i : Nat, i + d = 31 → Ev (fun k => hibernacleref10_Op.l0 k x nmL (i : Int)) (fnd (nmL.drop i) x (i : Int)) := by
  intro d
  induction d with
  | zero =>
    intro i hi
    have : i = 31 := by omega
    subst this
    have e3 : ((nmL.length : Nat) : Int) = 31 := rfl
    refine Ev.step (f := fun _ => some (0, false)) (fun k => ?_) (Ev.now _)
    simp only [hibernacleref10_Op.l0, e3]
    rw [if_neg (by omega)]
  | succ d ih =>
    intro i hi
    have hl : i < nmL.length := by show i < 31; omega
    have e1 : wrap64 ((i : Int) + 1) = ((i + 1 : Nat) : Int) := by unfold wrap64; omega
    have e2 : rdOf ByteArray.empty nmL (i : Int) = nmL[i] := by unfold rdOf; rw [Int.toNat_natCast, List.getD_eq_getElem?_getD, List.getElem?_eq_getElem hl]; rfl
    have e3 : ((nmL.length : Nat) : Int) = 31 := rfl
    have e4 : ((i + 1 : Nat) : Int) % 256 = (i : Int) + 1 := by omega
    rw [List.drop_eq_getElem_cons hl]
    unfold fnd
    refine Ev.step (f := fun k => if (nmL[i]).toList = x.toList then some ((i : Int) + 1, true) else hibernacleref10_Op.l0 k x nmL ((i + 1 : Nat) : Int)) (fun k => ?_) ?_
    · simp only [hibernacleref10_Op.l0, e1, e2, e3, e4]
      rw [if_pos (by omega), if_pos (by omega)]
    · by_cases h : (nmL[i]).toList = x.toList
      · simp only [if_pos h]; exact Ev.now _
      · simp only [if_neg h]
        have := ih (i + 1) (by omega)
        rw [show ((i + 1 : Nat) : Int) = (i : Int) + 1 by omega] at this ⊢
        exact this
theorem ref_op_ev (x : ByteArray) : Ev (fun k => hibernacleref10_Op.f k x) (opOf x) := by
  unfold hibernacleref10_Op.f
  rw [names_eq]
  simp only [Option.bind_some]
  exact ref_op_loop x 31 0 rfl
theorem fnd_sign (x : ByteArray) : ∀ (l : List ByteArray) (i : Int), 0 ≤ i → (decide ((fnd l x i).1 > 0) == (fnd l x i).2) = true
  | [], i, _ => by unfold fnd; rfl
  | y :: ys, i, h => by
    unfold fnd
    by_cases hy : y.toList = x.toList
    · rw [if_pos hy]; simp; omega
    · rw [if_neg hy]; exact fnd_sign x ys (i + 1) (by omega)
theorem ops_all : ∀ m : Fin 256, ((encOf (m.val : Int) 0 0 0 0).2 == 0) = (decide ((m.val : Int) ≥ 1) && decide ((m.val : Int) ≤ 31)) := by decide +kernel
theorem IsaOp_row (s : ByteArray) (n : Int) (n0 : 0 ≤ n) (n1 : n < 256) : Ev (fun k => hibernaclelaw10_IsaOp.f k s n) true := by
  unfold hibernaclelaw10_IsaOp.f
  refine Ev.bind alive_ev ?_
  simp only [if_pos]
  by_cases hs : (s.size : Int) > 50
  · simp only [if_pos hs]; exact Ev.now _
  simp only [if_neg hs]
  refine Ev.bind (op_ev s) (Ev.bind (ref_op_ev s) (Ev.bind (enc_ev n 0 0 0 0 n0 n1 (by omega) (by omega) (by omega)) ?_))
  have h1 := fnd_sign s nmL 0 (by omega)
  have h2 := ops_all ⟨n.toNat, by omega⟩
  have e : ((n.toNat : Nat) : Int) = n := by omega
  simp only [e] at h2
  have h1' : (decide ((opOf s).1 > 0) == (opOf s).2) = true := h1
  refine Ev.congr (fun k => if_pos rfl) (Ev.congr (fun k => if_pos (by simp)) (Ev.congr (fun k => if_pos h1') ?_))
  rw [h2]
  by_cases hn : n ≥ 1
  · simp only [if_pos hn]
    rw [decide_eq_true hn, Bool.true_and]
    simp
    exact Ev.now _
  · simp only [if_neg hn]
    rw [decide_eq_false hn, Bool.false_and]
    exact Ev.now _
theorem nm_names : ∀ m : Fin 31, opOf (nm ((m.val : Int) + 1)) = ((m.val : Int) + 1, true) := by decide +kernel
theorem opOf_nm (o : Int) (h0 : 1 ≤ o) (h1 : o ≤ 31) : opOf (nm o) = (o, true) := by
  have h := nm_names ⟨(o - 1).toNat, by omega⟩
  have e : (((o - 1).toNat : Nat) : Int) + 1 = o := by omega
  simp only [e] at h
  exact h
theorem opOf_nil : opOf (⟨#[]⟩ : ByteArray) = (0, false) := by decide +kernel
theorem nm_blanks : ∀ m : Fin 31, (32 : UInt8) ∉ (nm ((m.val : Int) + 1)).data.toList := by decide +kernel
theorem nm_blank (o : Int) (h0 : 1 ≤ o) (h1 : o ≤ 31) : (32 : UInt8) ∉ (nm o).data.toList := by
  have h := nm_blanks ⟨(o - 1).toNat, by omega⟩
  have e : (((o - 1).toNat : Nat) : Int) + 1 = o := by omega
  simp only [e] at h
  exact h
theorem bt_list (s : ByteArray) (i : Nat) : bt s (i : Int) = ((s.data.toList[i]?.getD 0).toNat : Int) := by
  unfold bt
  rw [Int.toNat_natCast]
  by_cases h : i < s.size
  · rw [dif_pos h]
    have h2 : i < s.data.toList.length := by rw [Array.length_toList]; exact h
    rw [List.getElem?_eq_getElem h2]
    rfl
  · rw [dif_neg h]
    have h2 : s.data.toList.length ≤ i := by rw [Array.length_toList]; exact Nat.not_lt.1 h
    rw [List.getElem?_eq_none h2]
    rfl
theorem bl_loop (bs : ByteArray) : ∀ (d i : Nat) (r : List UInt8), i + d = bs.size → ByteArray.toList.loop bs i r = r.reverse ++ bs.data.toList.drop i := by
  intro d
  induction d with
  | zero =>
    intro i r h
    unfold ByteArray.toList.loop
    rw [if_neg (by omega), List.drop_of_length_le (by rw [Array.length_toList]; show bs.size ≤ i; omega), List.append_nil]
  | succ d ih =>
    intro i r h
    unfold ByteArray.toList.loop
    have hl : i < bs.data.toList.length := by rw [Array.length_toList]; show i < bs.size; omega
    rw [if_pos (by omega), ih (i + 1) _ (by omega), List.drop_eq_getElem_cons hl]
    have : bs.get! i = bs.data.toList[i] := by
      show bs.data[i]! = _
      rw [getElem!_pos bs.data i (by show i < bs.size; omega)]; simp
    rw [this]; simp
theorem bl (bs : ByteArray) : bs.toList = bs.data.toList := by
  unfold ByteArray.toList
  rw [bl_loop bs bs.size 0 [] (by omega)]; simp
theorem txt_shape {o a b c n w : Int} (h : encOf o a b c n = (w, 0)) : ∃ r : ByteArray, txt o a b c n = nm o ++ (⟨#[32]⟩ : ByteArray) ++ r := by
  unfold txt
  rw [h, if_pos rfl]
  simp only [app_assoc]
  by_cases f1 : frm o = 114
  · rw [if_pos f1]; exact ⟨_, rfl⟩
  rw [if_neg f1]
  by_cases f2 : frm o = 105
  · rw [if_pos f2]; exact ⟨_, rfl⟩
  rw [if_neg f2]
  by_cases f3 : frm o = 108
  · rw [if_pos f3]; exact ⟨_, rfl⟩
  rw [if_neg f3]
  by_cases f4 : frm o = 109
  · rw [if_pos f4]; exact ⟨_, rfl⟩
  rw [if_neg f4]; exact ⟨_, rfl⟩
theorem text_loop (m r : ByteArray) (hm : m.size ≤ 1000) (hb : (32 : UInt8) ∉ m.data.toList) (hr : r.size ≤ 100000) (o a b c n : Int) (ho : opOf m = (o, true)) :
    ∀ d i : Nat, i + d = m.size → Ev (fun k => hibernaclelaw10_IsaText.l0 k (m ++ (⟨#[32]⟩ : ByteArray) ++ r) (i : Int) o a b c n) true := by
  have sz : (m ++ (⟨#[32]⟩ : ByteArray) ++ r).size = m.size + 1 + r.size := by rw [ByteArray.size_append, ByteArray.size_append]; rfl
  have dl : (m ++ (⟨#[32]⟩ : ByteArray) ++ r).data.toList = m.data.toList ++ ([32] ++ r.data.toList) := by simp [ByteArray.data_append]
  have ml : m.data.toList.length = m.size := Array.length_toList
  intro d
  induction d with
  | zero =>
    intro i hi
    have hi' : i = m.size := by omega
    have hbt : bt (m ++ (⟨#[32]⟩ : ByteArray) ++ r) (i : Int) = 32 := by
      rw [bt_list, dl, List.getElem?_append_right (by omega), show i - m.data.toList.length = 0 by omega]; rfl
    have hx : (m ++ (⟨#[32]⟩ : ByteArray) ++ r).extract 0 i = m := by
      apply ByteArray.ext
      rw [ByteArray.data_extract]
      apply Array.ext'
      rw [Array.toList_extract, List.extract_eq_take_drop, dl, List.drop_zero, Nat.sub_zero, hi', ← ml, List.take_left]
    have hne : ¬ (m ++ (⟨#[32]⟩ : ByteArray) ++ r).toList = [] := by
      intro h
      rw [bl, dl] at h
      simp at h
    refine Ev.step (f := fun k => (isa_Op.f k m).bind fun bt314 => if bt314.2 = true then some (bt314.1 == o) else some false) (fun k => ?_) ?_
    · simp only [hibernaclelaw10_IsaText.l0, hbt, Int.toNat_natCast, hx, if_neg hne]
      rw [if_pos (by omega), if_pos (by omega), if_pos trivial, if_pos (by omega)]
    · refine Ev.bind (op_ev m) ?_
      rw [ho]
      simp
      exact Ev.now _
  | succ d ih =>
    intro i hi
    have hl : i < m.data.toList.length := by omega
    have hbt : bt (m ++ (⟨#[32]⟩ : ByteArray) ++ r) (i : Int) ≠ 32 := by
      rw [bt_list, dl, List.getElem?_append_left hl, List.getElem?_eq_getElem hl]
      intro h
      apply hb
      have h3 : m.data.toList[i] = 32 := by
        have h2 : (m.data.toList[i]).toNat = 32 := by simp at h ⊢; omega
        exact UInt8.toNat_inj.1 h2
      rw [← h3]
      exact List.getElem_mem hl
    have e1 : wrap64 ((i : Int) + 1) = ((i + 1 : Nat) : Int) := by unfold wrap64; omega
    refine Ev.step (f := fun k => hibernaclelaw10_IsaText.l0 k (m ++ (⟨#[32]⟩ : ByteArray) ++ r) ((i + 1 : Nat) : Int) o a b c n) (fun k => ?_) (ih (i + 1) (by omega))
    simp only [hibernaclelaw10_IsaText.l0, if_neg hbt, e1]
    rw [if_pos (by omega), if_pos (by omega)]
theorem IsaText_ev (o a b c n : Int) (o0 : 0 ≤ o) (o1 : o < 256) (a0 : 0 ≤ a) (a1 : a < 256) (b0 : 0 ≤ b) (b1 : b < 256) (c0 : 0 ≤ c) (c1 : c < 256) (n0 : -2147483648 ≤ n) (n1 : n ≤ 2147483647) :
    Ev (fun k => hibernaclelaw10_IsaText.f k o a b c n) true := by
  unfold hibernaclelaw10_IsaText.f
  refine Ev.bind alive_ev ?_
  simp only [if_pos]
  refine Ev.bind (text_ev o a b c n o0 o1 a0 a1 b0 b1 c0 c1 n0 n1) (Ev.bind (ref_text_ev o a b c n o0 o1 a0 a1 b0 b1 c0 c1) ?_)
  simp only [if_pos]
  by_cases h : (encOf o a b c n).2 = 0
  · have hw : encOf o a b c n = ((encOf o a b c n).1, 0) := by rw [← h]
    obtain ⟨hf, _, _, _⟩ := enc_ok hw
    obtain ⟨g0, g1⟩ := frm_ne hf
    obtain ⟨r, hr⟩ := txt_shape hw
    have hsz : (txt o a b c n).size ≤ 90000 := by
      unfold txt
      rw [if_pos h]
      have sn := nm_size o g0 g1
      have si := itb_size n (by omega) (by omega)
      have sa := rg_size a (by omega) (by omega)
      have sb := rg_size b (by omega) (by omega)
      have sc := rg_size c (by omega) (by omega)
      have z0 : (⟨#[32]⟩ : ByteArray).size = 1 := rfl
      have z1 : (⟨#[44, 32]⟩ : ByteArray).size = 2 := rfl
      have z2 : (⟨#[40]⟩ : ByteArray).size = 1 := rfl
      have z3 : (⟨#[41]⟩ : ByteArray).size = 1 := rfl
      split
      · simp only [ByteArray.size_append]; omega
      · split
        · simp only [ByteArray.size_append]; omega
        · split
          · simp only [ByteArray.size_append]; omega
          · split <;> simp only [ByteArray.size_append] <;> omega
    have hr2 : r.size ≤ 100000 := by
      rw [hr, ByteArray.size_append] at hsz; omega
    rw [hr]
    exact text_loop (nm o) r (by have := nm_size o g0 g1; omega) (nm_blank o g0 g1) hr2 o a b c n (opOf_nm o g0 g1) (nm o).size 0 (by omega)
  · have e : txt o a b c n = (⟨#[]⟩ : ByteArray) := by unfold txt; rw [if_neg h]
    rw [e]
    refine Ev.step (f := fun k => (isa_Op.f k (⟨#[]⟩ : ByteArray)).bind fun bt314 => if bt314.2 = true then some (bt314.1 == o) else some true) (fun k => ?_) ?_
    · have z : (⟨#[]⟩ : ByteArray).size = 0 := rfl
      have x : (⟨#[]⟩ : ByteArray).extract 0 (0 : Int).toNat = (⟨#[]⟩ : ByteArray) := rfl
      have t : (⟨#[]⟩ : ByteArray).toList = [] := by simp
      simp only [hibernaclelaw10_IsaText.l0, z, x, t]
      rfl
    · refine Ev.bind (op_ev _) ?_
      rw [opOf_nil]
      exact Ev.now _
end Go.Proofs.YthdfkbkenklcaaaDoor.Q
end
section
namespace Go.Proofs.YthdfkbkenklcaaaDoor.Q
open Go.Proofs.YthdfkbkenklcaaaDoor.P Go.Proofs.YthdfkbkenklcaaaDoorW.PrintWords
theorem IsaText_row (o a b c n : Int) (h : Ix.Ok o a b c n) : Ev (fun k => hibernaclelaw10_IsaText.f k o a b c n) true := IsaText_ev o a b c n h.o0 h.o1 h.a0 h.a1 h.b0 h.b1 h.c0 h.c1 h.n0 h.n1
end Go.Proofs.YthdfkbkenklcaaaDoor.Q
end
section
namespace Go.Proofs.YthdfkbkenklcaaaDoor.isaText
set_option linter.unusedVariables false
set_option linter.unusedSimpArgs false
open Go.ChangeShapes Go.WideShapes Go.ChangeAt Go.RowKit Go.Proofs.YthdfkbkenklcaaaDoorW.PrintWords
open Go.ChangeMaps (open_string shut_string)
noncomputable def w0 (os : Os) : World := World.laidAll Tryd.prog os Ix.LL
theorem reads (os : Os) {H : Type} (enc : TypeId × Value → H) : ∃ places, DataW.whole enc Tryd.prog ((w0 os).forCall (fun _ _ => 0) ⟨#[], #[.agg #[.int .u8 0, .int .u8 0, .int .u8 0, .int .u8 0, .int .i32 0]], []⟩).memory Tryd.f8.params.toList Rows.isaTextSpec.vars false (#[.agg #[.int .u8 0, .int .u8 0, .int .u8 0, .int .u8 0, .int .i32 0]] : Array Value).toList 8 = some ([.agg [.lit (.int .u8 0), .lit (.int .u8 0), .lit (.int .u8 0), .lit (.int .u8 0), .lit (.int .i32 0)]], [], places) :=
  ⟨[], by kernel_rfl⟩
set_option maxRecDepth 100000 in
theorem lifted (os : Os) (started : os.Started) (H : Type) (enc : TypeId × Value → H) (F : Stop.Interp) :
    ReturnsInHanded {} Tryd.checked os 8 .any ((OpenSpec.ofChange Rows.isaTextSpec).preRow enc Tryd.prog Tryd.f8 Rows.isaTextRow.domain false Rows.isaTextRow.laid) (((OpenSpec.ofChange Rows.isaTextSpec).at F).post enc Tryd.prog Tryd.f8 false true false false) := by
  obtain ⟨places, hx⟩ := reads os enc
  refine returnsInHanded_of_row (C := Tryd.checked) (s := OpenSpec.ofChange Rows.isaTextSpec) Ix.own started (by kernel_rfl) Tryd.func8
    (witness_row_at (enc := enc) (C := Tryd.checked) false (w0 os) #[.agg #[.int .u8 0, .int .u8 0, .int .u8 0, .int .u8 0, .int .i32 0]] (World.laidAll_os _ _ _) (by kernel_rfl) (by kernel_rfl) (by kernel_rfl)
      (OpenSpec.preRow_of_cond 8 hx (by kernel_rfl) (fun k hk => by cases hk) (by kernel_rfl) (Ix.laid_met os _))) ?_
  intro W base args ds gs before hval0 hW _ _ hsz0 hL hS _
  have hLd : P.Laid W := Ix.laid_of hL hS
  have hsz : (DataW.weightsEach Tryd.prog (Tryd.f8.params.toList ++ Rows.isaTextSpec.plain.varTypes Tryd.prog) (ds ++ gs)).all (· ≤ reachBytes) = true := hsz0
  have hval : ∀ (j : Nat) t v, Tryd.f8.params[j]? = some t → args[j]? = some v → Value.okWide Tryd.prog W .any base t v := hval0
  have hW' := hW
  obtain ⟨p, q, hA0, hV, rfl, hfz, hnd⟩ := hW
  have hA : DataW.TrodAll enc Tryd.prog W 0 (fun _ => true) true Tryd.f8.params.toList args.toList ds p := hA0
  rw [Tryd.params8] at hA hval hsz
  obtain ⟨v0, vs0, d0, ds0, p0, q0, hargs, rfl, rfl, h0, r0⟩ := trodAll_cons hA
  obtain ⟨rfl, rfl, rfl⟩ := trodAll_nil r0
  obtain rfl : args = #[v0] := by cases args; simp_all
  obtain ⟨rfl, rfl⟩ := trodVars_none hV
  have k0 := h0
  have lt0 : ∀ x ∈ p0, x.block < W.heap.size := by obtain ⟨m, hm⟩ := k0; exact DataW.trod_lt m _ _ _ hm
  obtain ⟨o0, a0, b0, c0, n0, rfl, ok0⟩ := Ix.open_ins (hval 0 23 v0 rfl rfl) h0
  clear hA0 hval0 hsz0 hsz
  obtain ⟨k, hk⟩ := (Q.IsaText_row o0 a0 b0 c0 n0 ok0).rounds
  refine (P.hibernaclelaw10_IsaText.calls k o0 a0 b0 c0 n0 true W (Aside0.mk hLd) hk).mono fun e W' ⟨he, bel⟩ => ?_
  subst he
  exact ⟨_, rfl, _, _, _, [], _, [], hW', trodAll_mk1 (shut_bool Tryd.underlying4 _), (trodAll_cons_mk (Below.trod Ix.laidOut (by kernel_rfl) (of_decide_eq_true (by kernel_rfl)) k0 bel lt0) trodAll_mk0), rfl, bel.frame _, fun h => by cases h⟩
theorem said : Rows.IsaTextSaid :=
  OpenClaim.holds_of_cond 8 Tryd.f8 rfl rfl rfl rfl rfl rfl rfl ⟨rfl, rfl, rfl, rfl, rfl⟩ rfl rfl rfl rfl rfl (by kernel_rfl) Tryd.func8 (by kernel_rfl)
    (of_decide_eq_true (by kernel_rfl)) (by unfold Func.isWrapper; first | (rw [if_pos (by decide +kernel)]; kernel_rfl) | (rw [if_neg (by decide +kernel)]; exact ⟨rfl, rfl⟩))
    (fun os started H enc _ F => by rw [OpenClaim.pre_eq_preRow]; exact lifted os started H enc F)
theorem plain (f : FuncId) (fn : Func) (hf : Tryd.pinned.checked.prog.funcNamed "hibernacle/hibernaclelaw10.IsaText" = some f) (hfn : Tryd.pinned.checked.prog.funcs[f]? = some fn) :
    false = Tryd.pinned.checked.prog.looks [] ∧ ∀ (j : Nat) t, fn.params[j]? = some t → Tryd.pinned.checked.prog.wantsStandIn t = false := by
  obtain rfl : f = 8 := Option.some.inj ((show Tryd.prog.funcNamed "hibernacle/hibernaclelaw10.IsaText" = some 8 by kernel_rfl).symm.trans hf) |>.symm
  obtain rfl : fn = Tryd.f8 := (Option.some.inj (Tryd.func8.symm.trans hfn)).symm
  refine ⟨by kernel_rfl, fun j t ht => ?_⟩
  rw [Tryd.params8] at ht
  have hm := Array.mem_of_getElem? ht
  simp only [List.mem_toArray, List.mem_cons, List.not_mem_nil, or_false] at hm
  subst hm
  exact (show Tryd.prog.wantsStandIn 23 = false by kernel_rfl)
theorem card : Rows.IsaTextCardSaid :=
  Claim7.holds_tied_plain_at .later [] _ _ _ _ said (fun _ h => by cases h) (by kernel_rfl) (fun _ h => by cases h) isaText_row_tie rfl ⟨rfl, rfl⟩ (by kernel_rfl) rfl plain (by kernel_rfl)
end Go.Proofs.YthdfkbkenklcaaaDoor.isaText
namespace Go.Proofs.YthdfkbkenklcaaaDoor
theorem isaText_holds : Rows.IsaTextCardSaid := isaText.card
#print axioms isaText_holds
end Go.Proofs.YthdfkbkenklcaaaDoor
end
section

end
section
namespace Go.Proofs.YthdfkbkenklcaaaDoor.isaOp
set_option linter.unusedVariables false
set_option linter.unusedSimpArgs false
open Go.ChangeShapes Go.WideShapes Go.ChangeAt Go.RowKit Go.Proofs.YthdfkbkenklcaaaDoorW.PrintWords
open Go.ChangeMaps (open_string shut_string)
noncomputable def w0 (os : Os) : World := World.laidAll Tryd.prog os Ix.LL
theorem reads (os : Os) {H : Type} (enc : TypeId × Value → H) : ∃ places, DataW.whole enc Tryd.prog ((w0 os).forCall (fun _ _ => 0) ⟨#[], #[.string ⟨#[]⟩, .int .u8 0], []⟩).memory Tryd.f9.params.toList Rows.isaOpSpec.vars false (#[.string ⟨#[]⟩, .int .u8 0] : Array Value).toList 8 = some ([.lit (.string []), .lit (.int .u8 0)], [], places) :=
  ⟨[], by kernel_rfl⟩
set_option maxRecDepth 100000 in
theorem lifted (os : Os) (started : os.Started) (H : Type) (enc : TypeId × Value → H) (F : Stop.Interp) :
    ReturnsInHanded {} Tryd.checked os 9 .any ((OpenSpec.ofChange Rows.isaOpSpec).preRow enc Tryd.prog Tryd.f9 Rows.isaOpRow.domain false Rows.isaOpRow.laid) (((OpenSpec.ofChange Rows.isaOpSpec).at F).post enc Tryd.prog Tryd.f9 false true false false) := by
  obtain ⟨places, hx⟩ := reads os enc
  refine returnsInHanded_of_row (C := Tryd.checked) (s := OpenSpec.ofChange Rows.isaOpSpec) Ix.own started (by kernel_rfl) Tryd.func9
    (witness_row_at (enc := enc) (C := Tryd.checked) false (w0 os) #[.string ⟨#[]⟩, .int .u8 0] (World.laidAll_os _ _ _) (by kernel_rfl) (by kernel_rfl) (by kernel_rfl)
      (OpenSpec.preRow_of_cond 8 hx (by kernel_rfl) (fun k hk => by cases hk) (by kernel_rfl) (Ix.laid_met os _))) ?_
  intro W base args ds gs before hval0 hW _ _ hsz0 hL hS _
  have hLd : P.Laid W := Ix.laid_of hL hS
  have hsz : (DataW.weightsEach Tryd.prog (Tryd.f9.params.toList ++ Rows.isaOpSpec.plain.varTypes Tryd.prog) (ds ++ gs)).all (· ≤ reachBytes) = true := hsz0
  have hval : ∀ (j : Nat) t v, Tryd.f9.params[j]? = some t → args[j]? = some v → Value.okWide Tryd.prog W .any base t v := hval0
  have hW' := hW
  obtain ⟨p, q, hA0, hV, rfl, hfz, hnd⟩ := hW
  have hA : DataW.TrodAll enc Tryd.prog W 0 (fun _ => true) true Tryd.f9.params.toList args.toList ds p := hA0
  rw [Tryd.params9] at hA hval hsz
  obtain ⟨v0, vs0, d0, ds0, p0, q0, hargs, rfl, rfl, h0, r0⟩ := trodAll_cons hA
  obtain ⟨v1, vs1, d1, ds1, p1, q1, rfl, rfl, rfl, h1, r1⟩ := trodAll_cons r0
  obtain ⟨rfl, rfl, rfl⟩ := trodAll_nil r1
  obtain rfl : args = #[v0, v1] := by cases args; simp_all
  obtain ⟨rfl, rfl⟩ := trodVars_none hV
  have k0 := h0
  have lt0 : ∀ x ∈ p0, x.block < W.heap.size := by obtain ⟨m, hm⟩ := k0; exact DataW.trod_lt m _ _ _ hm
  have k1 := h1
  have lt1 : ∀ x ∈ p1, x.block < W.heap.size := by obtain ⟨m, hm⟩ := k1; exact DataW.trod_lt m _ _ _ hm
  obtain ⟨s0, rfl, hd0, -⟩ := open_string Tryd.underlying9 (hval 0 9 v0 rfl rfl) h0
  obtain ⟨e1, rfl, -, -, w1⟩ := open_int Tryd.underlying5 (hval 1 5 v1 rfl rfl) h1
  have g1 := Ix.u8_wf w1
  clear hA0 hval0 hsz0 hsz
  obtain ⟨k, hk⟩ := (Q.IsaOp_row s0 e1 g1.1 g1.2).rounds
  refine (P.hibernaclelaw10_IsaOp.calls k s0 e1 true W (Aside0.mk hLd) hk).mono fun e W' ⟨he, bel⟩ => ?_
  subst he
  exact ⟨_, rfl, _, _, _, [], _, [], hW', trodAll_mk1 (shut_bool Tryd.underlying4 _), (trodAll_cons_mk (Below.trod Ix.laidOut (by kernel_rfl) (of_decide_eq_true (by kernel_rfl)) k0 bel lt0) (trodAll_cons_mk (Below.trod Ix.laidOut (by kernel_rfl) (of_decide_eq_true (by kernel_rfl)) k1 bel lt1) trodAll_mk0)), rfl, bel.frame _, fun h => by cases h⟩
theorem said : Rows.IsaOpSaid :=
  OpenClaim.holds_of_cond 9 Tryd.f9 rfl rfl rfl rfl rfl rfl rfl ⟨rfl, rfl, rfl, rfl, rfl⟩ rfl rfl rfl rfl rfl (by kernel_rfl) Tryd.func9 (by kernel_rfl)
    (of_decide_eq_true (by kernel_rfl)) (by unfold Func.isWrapper; first | (rw [if_pos (by decide +kernel)]; kernel_rfl) | (rw [if_neg (by decide +kernel)]; exact ⟨rfl, rfl⟩))
    (fun os started H enc _ F => by rw [OpenClaim.pre_eq_preRow]; exact lifted os started H enc F)
theorem plain (f : FuncId) (fn : Func) (hf : Tryd.pinned.checked.prog.funcNamed "hibernacle/hibernaclelaw10.IsaOp" = some f) (hfn : Tryd.pinned.checked.prog.funcs[f]? = some fn) :
    false = Tryd.pinned.checked.prog.looks [] ∧ ∀ (j : Nat) t, fn.params[j]? = some t → Tryd.pinned.checked.prog.wantsStandIn t = false := by
  obtain rfl : f = 9 := Option.some.inj ((show Tryd.prog.funcNamed "hibernacle/hibernaclelaw10.IsaOp" = some 9 by kernel_rfl).symm.trans hf) |>.symm
  obtain rfl : fn = Tryd.f9 := (Option.some.inj (Tryd.func9.symm.trans hfn)).symm
  refine ⟨by kernel_rfl, fun j t ht => ?_⟩
  rw [Tryd.params9] at ht
  have hm := Array.mem_of_getElem? ht
  simp only [List.mem_toArray, List.mem_cons, List.not_mem_nil, or_false] at hm
  rcases hm with rfl | rfl
  · exact (show Tryd.prog.wantsStandIn 9 = false by kernel_rfl)
  · exact (show Tryd.prog.wantsStandIn 5 = false by kernel_rfl)
theorem card : Rows.IsaOpCardSaid :=
  Claim7.holds_tied_plain_at .later [] _ _ _ _ said (fun _ h => by cases h) (by kernel_rfl) (fun _ h => by cases h) isaOp_row_tie rfl ⟨rfl, rfl⟩ (by kernel_rfl) rfl plain (by kernel_rfl)
end Go.Proofs.YthdfkbkenklcaaaDoor.isaOp
namespace Go.Proofs.YthdfkbkenklcaaaDoor
theorem isaOp_holds : Rows.IsaOpCardSaid := isaOp.card
#print axioms isaOp_holds
end Go.Proofs.YthdfkbkenklcaaaDoor
end
