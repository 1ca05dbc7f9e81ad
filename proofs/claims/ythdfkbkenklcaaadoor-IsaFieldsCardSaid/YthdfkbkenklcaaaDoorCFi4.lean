-- Printed for this claim and put together by wip/tools/prune.py.
import Derived.Test.YthdfkbkenklcaaaDoorCFi1
import Derived.Test.YthdfkbkenklcaaaDoorCFi2
import Derived.Test.YthdfkbkenklcaaaDoorCFi3
set_option linter.unusedVariables false
set_option linter.unusedSimpArgs false
section
set_option linter.unusedSimpArgs false
set_option linter.unusedVariables false
namespace Go.Proofs.YthdfkbkenklcaaaDoor.Q
open Go.RowKit Go.Proofs.YthdfkbkenklcaaaDoor.P Go.Proofs.YthdfkbkenklcaaaDoorW.PrintWords Go.Proofs.YthdfkbkenklcaaaDoorW.PrintLast Go.Proofs.YthdfkbkenklcaaaDoorW.PrintMore
theorem wrap64_id {n : Int} (h0 : -9223372036854775808 ≤ n) (h1 : n ≤ 9223372036854775807) : wrap64 n = n := by
  unfold wrap64; omega
def formB : ByteArray := ⟨#[114, 114, 114, 114, 114, 114, 114, 114, 114, 114, 114, 114, 114, 105, 105, 105, 105, 105, 108, 109, 109, 109, 109, 109, 105, 105, 105, 105, 108, 109, 110]⟩
def frm (o : Int) : Int := if o < 1 ∨ 31 < o then 0 else bt formB (o - 1)
theorem form_eq (o : Int) (h0 : 0 ≤ o) (h1 : o < 256) : isa_form.f o = some (frm o) := by
  have hw : wrap64 o = o := wrap64_id (by omega) (by omega)
  unfold isa_form.f frm
  rw [hw]
  by_cases a : o < 1
  · rw [if_pos a, if_pos (Or.inl a)]
  · rw [if_neg a]
    by_cases b : o > 31
    · rw [if_pos b, if_pos (Or.inr b)]
    · have e : (o - 1) % 256 = o - 1 := by omega
      rw [if_neg b, if_neg (show ¬(o < 1 ∨ 31 < o) by omega), e, if_pos (by omega), if_pos (by omega)]
      rfl
theorem frm_cases : ∀ m : Fin 31, bt formB ((m.val : Int)) = 114 ∨ bt formB ((m.val : Int)) = 105 ∨ bt formB ((m.val : Int)) = 108 ∨ bt formB ((m.val : Int)) = 109 ∨ bt formB ((m.val : Int)) = 110 := by decide
theorem frm_in (o : Int) (h0 : 1 ≤ o) (h1 : o ≤ 31) : frm o = 114 ∨ frm o = 105 ∨ frm o = 108 ∨ frm o = 109 ∨ frm o = 110 := by
  have := frm_cases ⟨(o - 1).toNat, by omega⟩
  unfold frm
  rw [if_neg (by omega)]
  have e : (((o - 1).toNat : Nat) : Int) = o - 1 := by omega
  simp only [e] at this
  exact this
theorem has_eq (f : Int) : isa_has.f f = some (f != 110, f == 114 || f == 105 || f == 109, f == 114, f != 114) := by
  unfold isa_has.f
  by_cases a : f = 114
  · subst a; rfl
  · rw [if_neg a]
    by_cases b : f = 105
    · subst b; rfl
    · rw [if_neg b]
      have a' : (f == 114) = false := beq_eq_false_iff_ne.2 a
      have b' : (f == 105) = false := beq_eq_false_iff_ne.2 b
      simp [a', b']
def pl (o : Int) : Bool := decide (Lib.indexByte (⟨#[15, 16, 17, 19, 31]⟩ : ByteArray).data.toList o.toNat.toUInt8 ≥ 0)
def fit (o n : Int) : Bool := if pl o then decide (0 ≤ n ∧ n ≤ 65535) else decide (-32768 ≤ n ∧ n ≤ 32767)
theorem fits_eq (o n : Int) : isa_fits.f o n = some (fit o n) := by
  unfold isa_fits.f fit pl strings_IndexByte.f
  simp only [Option.bind_some, decide_eq_true_eq]
  by_cases a : Lib.indexByte (⟨#[15, 16, 17, 19, 31]⟩ : ByteArray).data.toList o.toNat.toUInt8 ≥ 0
  · rw [if_pos a, if_pos a]
    by_cases b : n ≥ 0
    · rw [if_pos b]; simp [show 0 ≤ n from b]
    · rw [if_neg b]; simp [show ¬ 0 ≤ n from b]
  · rw [if_neg a, if_neg a]
    by_cases b : n ≥ -32768
    · rw [if_pos b]; simp [show -32768 ≤ n from b]
    · rw [if_neg b]; simp [show ¬ -32768 ≤ n from b]
def bad (f a b c n : Int) : Bool := decide (a > 15) || decide (b > 15) || decide (c > 15) || (f == 110 && a != 0) || (!(f == 114 || f == 105 || f == 109) && b != 0) || (f != 114 && c != 0) || (f == 114 && n != 0)
theorem enc_eq (k : Nat) (o a b c n : Int) (h0 : 0 ≤ o) (h1 : o < 256) (hf : frm o ≠ 0) : isa_Enc.f k o a b c n = isa_Enc.j0 k (frm o != 114) (bad (frm o) a b c n) o a b c n := by
  unfold isa_Enc.f
  rw [form_eq o h0 h1]
  simp only [Option.bind_some, has_eq, if_neg hf]
  generalize frm o = f
  unfold bad
  have e1 : (f != 110) = !(f == 110) := rfl
  have e2 : (f != 114) = !(f == 114) := rfl
  rw [e1, e2]
  generalize (f == 110) = x
  generalize (f == 114) = y
  generalize (f == 105) = z
  generalize (f == 109) = t
  by_cases p : a > 15
  · rw [if_pos p]; simp [p]
  by_cases q : b > 15
  · rw [if_neg p, if_pos q]; simp [q]
  by_cases r : c > 15
  · rw [if_neg p, if_neg q, if_pos r]; simp [r]
  rw [if_neg p, if_neg q, if_neg r]
  have e3 : (a != 0) = !(decide (a = 0)) := by by_cases h : a = 0 <;> simp [h]
  have e4 : (b != 0) = !(decide (b = 0)) := by by_cases h : b = 0 <;> simp [h]
  have e5 : (c != 0) = !(decide (c = 0)) := by by_cases h : c = 0 <;> simp [h]
  rw [e3, e4, e5, decide_eq_false p, decide_eq_false q, decide_eq_false r]
  generalize (n != 0) = s
  by_cases ha : a = 0 <;> by_cases hb : b = 0 <;> by_cases hc : c = 0 <;> cases x <;> cases y <;> cases z <;> cases t <;> simp [ha, hb, hc]
end Go.Proofs.YthdfkbkenklcaaaDoor.Q
end
section
set_option linter.unusedSimpArgs false
set_option linter.unusedVariables false
namespace Go.Proofs.YthdfkbkenklcaaaDoor.Q
open Go.RowKit Go.Proofs.YthdfkbkenklcaaaDoor.P Go.Proofs.YthdfkbkenklcaaaDoorW.PrintWords Go.Proofs.YthdfkbkenklcaaaDoorW.PrintLast Go.Proofs.YthdfkbkenklcaaaDoorW.PrintMore
theorem u32_nat {n : Int} (h0 : 0 ≤ n) (h1 : n < 2 ^ 32) : IntKind.u32.wrap n = n := by
  rw [IntKind.wrap_u32]; omega
theorem u32_or (i : Nat) {x y : Int} (hx0 : 0 ≤ x) (hx : x % 2 ^ i = 0) (hx1 : x < 2 ^ 32) (hy0 : 0 ≤ y) (hy : y < 2 ^ i) (hy1 : y < 2 ^ 32) : bits .or .u32 x y = x + y :=
  bits_join .u32 32 (by decide) (fun _ => u32_nat) i x y hx0 hx hx1 hy0 hy hy1
theorem u32_and15 {x : Int} (h0 : 0 ≤ x) (h1 : x < 2 ^ 32) : bits .and .u32 x 15 = x % 16 :=
  bits_mask .u32 32 (by decide) (fun _ => u32_nat) 4 (by decide) x h0 h1
theorem u16_mod (n : Int) : IntKind.u16.wrap n = n % 65536 := by simp [IntKind.wrap, IntKind.bits, IntKind.signed]
theorem i16_mod (n : Int) : IntKind.i16.wrap n = (n + 32768) % 65536 - 32768 := by
  simp [IntKind.wrap, IntKind.bits, IntKind.signed]
  split <;> omega
theorem word3 {o a b c : Int} (o0 : 0 ≤ o) (o1 : o ≤ 31) (a0 : 0 ≤ a) (a1 : a ≤ 15) (b0 : 0 ≤ b) (b1 : b ≤ 15) (c0 : 0 ≤ c) (c1 : c ≤ 15) :
    Go.bits .or .u32 (Go.bits .or .u32 (Go.bits .or .u32 (((IntKind.u32.wrap o) * 67108864) % 4294967296) (((IntKind.u32.wrap a) * 4194304) % 4294967296)) (((IntKind.u32.wrap b) * 262144) % 4294967296)) (((IntKind.u32.wrap c) * 16384) % 4294967296) = o * 67108864 + a * 4194304 + b * 262144 + c * 16384 := by
  rw [u32_nat o0 (by omega), u32_nat a0 (by omega), u32_nat b0 (by omega), u32_nat c0 (by omega)]
  rw [show (o * 67108864) % 4294967296 = o * 67108864 by omega, show (a * 4194304) % 4294967296 = a * 4194304 by omega, show (b * 262144) % 4294967296 = b * 262144 by omega, show (c * 16384) % 4294967296 = c * 16384 by omega]
  rw [u32_or 26 (x := o * 67108864) (y := a * 4194304) (by omega) (by omega) (by omega) (by omega) (by omega) (by omega)]
  rw [u32_or 22 (x := o * 67108864 + a * 4194304) (y := b * 262144) (by omega) (by omega) (by omega) (by omega) (by omega) (by omega)]
  rw [u32_or 18 (x := o * 67108864 + a * 4194304 + b * 262144) (y := c * 16384) (by omega) (by omega) (by omega) (by omega) (by omega) (by omega)]
def wrd (o a b c n : Int) : Int := o * 67108864 + a * 4194304 + b * 262144 + (if frm o = 114 then c * 16384 else n % 65536)
def encOf (o a b c n : Int) : Int × Int :=
  if frm o = 0 then (0, 16) else if bad (frm o) a b c n = true then (0, 1) else if (frm o != 114 && !fit o n) = true then (0, 2) else (wrd o a b c n, 0)
theorem frm_ne {o : Int} (h : frm o ≠ 0) : 1 ≤ o ∧ o ≤ 31 := by
  unfold frm at h
  split at h
  · exact absurd rfl h
  · omega
theorem bad_no {f a b c n : Int} (h : ¬ bad f a b c n = true) : a ≤ 15 ∧ b ≤ 15 ∧ c ≤ 15 ∧ (f = 110 → a = 0) ∧ (¬(f = 114 ∨ f = 105 ∨ f = 109) → b = 0) ∧ (f ≠ 114 → c = 0) ∧ (f = 114 → n = 0) := by
  unfold bad at h
  simp only [Bool.or_eq_true, Bool.and_eq_true, decide_eq_true_eq, beq_iff_eq, bne_iff_ne, Bool.not_eq_true', ne_eq, not_or, not_and, Bool.or_eq_false_iff, beq_eq_false_iff_ne, Decidable.not_not] at h
  obtain ⟨⟨⟨⟨⟨⟨h1, h2⟩, h3⟩, h4⟩, h5⟩, h6⟩, h7⟩ := h
  refine ⟨by omega, by omega, by omega, h4, fun g => ?_, h6, h7⟩
  exact h5 ⟨⟨fun x => g (Or.inl x), fun x => g (Or.inr (Or.inl x))⟩, fun x => g (Or.inr (Or.inr x))⟩
theorem enc_ev (o a b c n : Int) (o0 : 0 ≤ o) (o1 : o < 256) (a0 : 0 ≤ a) (b0 : 0 ≤ b) (c0 : 0 ≤ c) : Ev (fun k => isa_Enc.f k o a b c n) (encOf o a b c n) := by
  unfold encOf
  by_cases hf : frm o = 0
  · rw [if_pos hf]
    refine Ev.congr (fun k => ?_) (Ev.now _)
    unfold isa_Enc.f
    rw [form_eq o o0 o1, Option.bind_some, if_pos hf]
  · rw [if_neg hf]
    refine Ev.congr (fun k => enc_eq k o a b c n o0 o1 hf) ?_
    obtain ⟨g0, g1⟩ := frm_ne hf
    by_cases hb : bad (frm o) a b c n = true
    · rw [hb, if_pos rfl]
      exact Ev.step (f := fun _ => some (0, 1)) (fun k => by simp only [isa_Enc.j0]; rw [if_pos trivial]) (Ev.now _)
    · rw [if_neg hb]
      obtain ⟨a1, b1, c1, _, _, h6, h7⟩ := bad_no hb
      have hb' : bad (frm o) a b c n = false := by simpa using hb
      rw [hb']
      have W := word3 o0 g1 a0 a1 b0 b1 c0 c1
      by_cases hr : frm o = 114
      · have e : (frm o != 114) = false := by simp [hr]
        rw [e]
        refine Ev.step (f := fun k => isa_Enc.j1 k false false o a b c n) (fun k => by simp only [isa_Enc.j0]; rw [if_neg (by simp), if_neg (by simp)]) ?_
        refine Ev.step (f := fun _ => some (wrd o a b c n, 0)) (fun k => ?_) (by simp only [Bool.false_and]; rw [if_neg (by simp)]; exact Ev.now _)
        simp only [isa_Enc.j1]
        rw [if_neg (by simp), if_neg (by simp), W]
        unfold wrd
        rw [if_pos hr]
      · have e : (frm o != 114) = true := by simp [hr]
        rw [e]
        refine Ev.step (f := fun k => isa_Enc.j1 k true (!fit o n) o a b c n) (fun k => by simp only [isa_Enc.j0, fits_eq, Option.bind_some]; rw [if_neg (by simp), if_pos trivial]) ?_
        have c2 := h6 hr
        subst c2
        by_cases ft : fit o n = true
        · rw [ft]
          refine Ev.step (f := fun _ => some (wrd o a b 0 n, 0)) (fun k => ?_) (by rw [if_neg (by simp)]; exact Ev.now _)
          simp only [isa_Enc.j1]
          rw [if_neg (by simp), if_pos trivial, W]
          unfold wrd
          rw [if_neg hr, u16_mod, u32_nat (n := n % 65536) (by omega) (by omega), u32_or 16 (x := o * 67108864 + a * 4194304 + b * 262144 + 0 * 16384) (y := n % 65536) (by omega) (by omega) (by omega) (by omega) (by omega) (by omega)]
          simp
        · have ft' : fit o n = false := by simpa using ft
          rw [ft']
          refine Ev.step (f := fun _ => some (0, 2)) (fun k => ?_) (by rw [if_pos (by simp)]; exact Ev.now _)
          simp only [isa_Enc.j1]
          rw [if_pos (by simp)]
theorem frm_lt {o : Int} (h : frm o ≠ 0) : frm o = 114 ∨ frm o = 105 ∨ frm o = 108 ∨ frm o = 109 ∨ frm o = 110 := frm_in o (frm_ne h).1 (frm_ne h).2
theorem enc_ok {o a b c n w : Int} (h : encOf o a b c n = (w, 0)) : frm o ≠ 0 ∧ ¬ bad (frm o) a b c n = true ∧ (frm o ≠ 114 → fit o n = true) ∧ w = wrd o a b c n := by
  unfold encOf at h
  by_cases hf : frm o = 0
  · rw [if_pos hf] at h; simp at h
  rw [if_neg hf] at h
  by_cases hb : bad (frm o) a b c n = true
  · rw [if_pos hb] at h; simp at h
  rw [if_neg hb] at h
  by_cases hg : (frm o != 114 && !fit o n) = true
  · rw [if_pos hg] at h; simp at h
  rw [if_neg hg] at h
  simp only [Prod.mk.injEq, and_true] at h
  refine ⟨hf, hb, fun e => ?_, h.symm⟩
  cases hx : fit o n with
  | true => rfl
  | false => exact absurd (by simp [e, hx]) hg
end Go.Proofs.YthdfkbkenklcaaaDoor.Q
end
section
set_option linter.unusedSimpArgs false
set_option linter.unusedVariables false
namespace Go.Proofs.YthdfkbkenklcaaaDoor.Q
open Go.RowKit Go.Proofs.YthdfkbkenklcaaaDoor.P Go.Proofs.YthdfkbkenklcaaaDoorW.PrintWords Go.Proofs.YthdfkbkenklcaaaDoorW.PrintLast Go.Proofs.YthdfkbkenklcaaaDoorW.PrintMore
theorem bits_xor_nat (x y : Nat) : Go.bits .xor .u32 (x : Int) (y : Int) = ((BitVec.ofNat 32 x ^^^ BitVec.ofNat 32 y).toNat : Int) := by
  show IntKind.u32.wrap ((BitVec.ofInt 32 (x : Int) ^^^ BitVec.ofInt 32 (y : Int)).toNat : Int) = _
  rw [BitVec.ofInt_natCast, BitVec.ofInt_natCast]
  have := (BitVec.ofNat 32 x ^^^ BitVec.ofNat 32 y).isLt
  rw [IntKind.wrap_u32]
  omega
theorem same_low {x y lo i : Nat} (h : x % 2 ^ lo = y % 2 ^ lo) (hi : i < lo) : x.testBit i = y.testBit i := by
  have := congrArg (fun z => z.testBit i) h
  simp only [Nat.testBit_mod_two_pow, hi, decide_true, Bool.true_and] at this
  exact this
theorem same_high {x y hi i : Nat} (h : x / 2 ^ hi = y / 2 ^ hi) (hi' : hi ≤ i) : x.testBit i = y.testBit i := by
  have := congrArg (fun z => z.testBit (i - hi)) h
  simp only [Nat.testBit_div_two_pow] at this
  rw [show i - hi + hi = i by omega] at this
  exact this
theorem diff0 (lo hi : Nat) (x y m : Nat) (low : x % 2 ^ lo = y % 2 ^ lo) (high : x / 2 ^ hi = y / 2 ^ hi) (hm : ∀ i, lo ≤ i → i < hi → m.testBit i = true) :
    Go.bits .andNot .u32 (Go.bits .xor .u32 (x : Int) (y : Int)) (m : Int) = 0 := by
  rw [bits_xor_nat]
  show IntKind.u32.wrap ((BitVec.ofInt 32 ((BitVec.ofNat 32 x ^^^ BitVec.ofNat 32 y).toNat : Int) &&& ~~~ BitVec.ofInt 32 (m : Int)).toNat : Int) = 0
  rw [BitVec.ofInt_natCast, BitVec.ofInt_natCast, BitVec.ofNat_toNat, BitVec.setWidth_eq]
  have : (BitVec.ofNat 32 x ^^^ BitVec.ofNat 32 y) &&& ~~~ BitVec.ofNat 32 m = 0#32 := by
    apply BitVec.eq_of_getLsbD_eq
    intro i hi32
    simp only [BitVec.getLsbD_and, BitVec.getLsbD_xor, BitVec.getLsbD_not, BitVec.getLsbD_ofNat, hi32, decide_true, Bool.true_and, BitVec.getLsbD_zero]
    by_cases h1 : i < lo
    · rw [same_low low h1]; simp
    · by_cases h2 : i < hi
      · rw [hm i (by omega) h2]; simp
      · rw [same_high high (by omega)]; simp
  rw [this]
  rfl
theorem xor_top (x y : Nat) (hx : x < 4294967296) (hy : y < 4294967296) (h : x / 65536 = y / 65536) : Go.bits .xor .u32 (x : Int) (y : Int) / 65536 = 0 := by
  rw [bits_xor_nat]
  have e : (BitVec.ofNat 32 x ^^^ BitVec.ofNat 32 y).toNat < 2 ^ 16 := by
    rw [BitVec.toNat_xor, BitVec.toNat_ofNat, BitVec.toNat_ofNat, Nat.mod_eq_of_lt hx, Nat.mod_eq_of_lt hy]
    apply Nat.lt_pow_two_of_testBit
    intro i hi
    rw [Nat.testBit_xor, same_high (hi := 16) h hi]
    simp
  omega
theorem mask22 : ∀ i, 22 ≤ i → i < 26 → (62914560 : Nat).testBit i = true := by
  intro i h1 h2
  have : ∀ j : Fin 4, (62914560 : Nat).testBit (22 + j.val) = true := by decide
  have h := this ⟨i - 22, by omega⟩
  rw [show 22 + (i - 22) = i by omega] at h
  exact h
theorem mask18 : ∀ i, 18 ≤ i → i < 22 → (3932160 : Nat).testBit i = true := by
  intro i h1 h2
  have : ∀ j : Fin 4, (3932160 : Nat).testBit (18 + j.val) = true := by decide
  have h := this ⟨i - 18, by omega⟩
  rw [show 18 + (i - 18) = i by omega] at h
  exact h
theorem mask14 : ∀ i, 14 ≤ i → i < 18 → (245760 : Nat).testBit i = true := by
  intro i h1 h2
  have : ∀ j : Fin 4, (245760 : Nat).testBit (14 + j.val) = true := by decide
  have h := this ⟨i - 14, by omega⟩
  rw [show 14 + (i - 14) = i by omega] at h
  exact h
theorem word_of {o a b c n w : Int} (o0 : 0 ≤ o) (a0 : 0 ≤ a) (b0 : 0 ≤ b) (c0 : 0 ≤ c) (h : encOf o a b c n = (w, 0)) :
    o ≤ 31 ∧ a ≤ 15 ∧ b ≤ 15 ∧ c ≤ 15 ∧ ∃ t : Int, 0 ≤ t ∧ t < 262144 ∧ w = o * 67108864 + a * 4194304 + b * 262144 + t ∧ t = (if frm o = 114 then c * 16384 else n % 65536) ∧ (frm o ≠ 114 → c = 0) ∧ (frm o = 114 → n = 0) := by
  obtain ⟨hf, hb, _, hw⟩ := enc_ok h
  obtain ⟨g0, g1⟩ := frm_ne hf
  obtain ⟨a1, b1, c1, _, _, h6, h7⟩ := bad_no hb
  refine ⟨g1, a1, b1, c1, _, ?_, ?_, hw, rfl, h6, h7⟩
  · split <;> omega
  · split <;> omega
theorem fields_a {o a b c n w a' p : Int} (o0 : 0 ≤ o) (a0 : 0 ≤ a) (b0 : 0 ≤ b) (c0 : 0 ≤ c) (a0' : 0 ≤ a') (h : encOf o a b c n = (w, 0)) (h' : encOf o a' b c n = (p, 0)) :
    Go.bits .andNot .u32 (Go.bits .xor .u32 w p) 62914560 = 0 ∧ Go.bits .and .u32 (p / 4194304) 15 = a' % 4294967296 := by
  obtain ⟨g1, a1, b1, c1, t, t0, t1, hw, ht, _, _⟩ := word_of o0 a0 b0 c0 h
  obtain ⟨_, a1', _, _, t', t0', t1', hp, ht', _, _⟩ := word_of o0 a0' b0 c0 h'
  have et : t = t' := by rw [ht, ht']
  constructor
  · obtain ⟨x, rfl⟩ : ∃ x : Nat, w = (x : Int) := ⟨w.toNat, by omega⟩
    obtain ⟨y, rfl⟩ : ∃ y : Nat, p = (y : Int) := ⟨p.toNat, by omega⟩
    exact diff0 22 26 x y 62914560 (by omega) (by omega) mask22
  · rw [u32_and15 (by omega) (by omega)]
    omega
theorem fields_b {o a b c n w b' p : Int} (o0 : 0 ≤ o) (a0 : 0 ≤ a) (b0 : 0 ≤ b) (c0 : 0 ≤ c) (b0' : 0 ≤ b') (h : encOf o a b c n = (w, 0)) (h' : encOf o a b' c n = (p, 0)) :
    Go.bits .andNot .u32 (Go.bits .xor .u32 w p) 3932160 = 0 ∧ Go.bits .and .u32 (p / 262144) 15 = b' % 4294967296 := by
  obtain ⟨g1, a1, b1, c1, t, t0, t1, hw, ht, _, _⟩ := word_of o0 a0 b0 c0 h
  obtain ⟨_, _, b1', _, t', t0', t1', hp, ht', _, _⟩ := word_of o0 a0 b0' c0 h'
  have et : t = t' := by rw [ht, ht']
  constructor
  · obtain ⟨x, rfl⟩ : ∃ x : Nat, w = (x : Int) := ⟨w.toNat, by omega⟩
    obtain ⟨y, rfl⟩ : ∃ y : Nat, p = (y : Int) := ⟨p.toNat, by omega⟩
    exact diff0 18 22 x y 3932160 (by omega) (by omega) mask18
  · rw [u32_and15 (by omega) (by omega)]
    omega
theorem fields_c {o a b c n w c' p : Int} (o0 : 0 ≤ o) (a0 : 0 ≤ a) (b0 : 0 ≤ b) (c0 : 0 ≤ c) (c0' : 0 ≤ c') (h : encOf o a b c n = (w, 0)) (h' : encOf o a b c' n = (p, 0)) :
    Go.bits .andNot .u32 (Go.bits .xor .u32 w p) 245760 = 0 := by
  obtain ⟨g1, a1, b1, c1, t, t0, t1, hw, ht, k1, k2⟩ := word_of o0 a0 b0 c0 h
  obtain ⟨_, _, _, c1', t', t0', t1', hp, ht', k1', k2'⟩ := word_of o0 a0 b0 c0' h'
  obtain ⟨x, rfl⟩ : ∃ x : Nat, w = (x : Int) := ⟨w.toNat, by omega⟩
  obtain ⟨y, rfl⟩ : ∃ y : Nat, p = (y : Int) := ⟨p.toNat, by omega⟩
  by_cases hr : frm o = 114
  · rw [if_pos hr] at ht ht'
    exact diff0 14 18 x y 245760 (by omega) (by omega) mask14
  · rw [if_neg hr] at ht ht'
    exact diff0 14 18 x y 245760 (by omega) (by omega) mask14
theorem fields_n {o a b c n w n' p : Int} (o0 : 0 ≤ o) (a0 : 0 ≤ a) (b0 : 0 ≤ b) (c0 : 0 ≤ c) (h : encOf o a b c n = (w, 0)) (h' : encOf o a b c n' = (p, 0)) :
    Go.bits .xor .u32 w p / 65536 = 0 := by
  obtain ⟨g1, a1, b1, c1, t, t0, t1, hw, ht, k1, k2⟩ := word_of o0 a0 b0 c0 h
  obtain ⟨_, _, _, _, t', t0', t1', hp, ht', k1', k2'⟩ := word_of o0 a0 b0 c0 h'
  obtain ⟨x, rfl⟩ : ∃ x : Nat, w = (x : Int) := ⟨w.toNat, by omega⟩
  obtain ⟨y, rfl⟩ : ∃ y : Nat, p = (y : Int) := ⟨p.toNat, by omega⟩
  by_cases hr : frm o = 114
  · rw [if_pos hr] at ht ht'
    exact xor_top x y (by omega) (by omega) (by omega)
  · rw [if_neg hr] at ht ht'
    have := k1 hr
    exact xor_top x y (by omega) (by omega) (by omega)
end Go.Proofs.YthdfkbkenklcaaaDoor.Q
end
