-- Printed for this claim and put together by wip/tools/prune.py.
import Derived.Test.YthdfkbkenklcaaaDoorCUn1
import Derived.Test.YthdfkbkenklcaaaDoorCUn2
import Derived.Test.YthdfkbkenklcaaaDoorCUn3
import Derived.Test.YthdfkbkenklcaaaDoorCUn5
import Derived.Test.YthdfkbkenklcaaaDoorCUn6
set_option linter.unusedVariables false
set_option linter.unusedSimpArgs false
section
namespace Go.Proofs.YthdfkbkenklcaaaDoor.P
open Go.RowKit Go.Proofs.YthdfkbkenklcaaaDoorW.PrintWords Go.Proofs.YthdfkbkenklcaaaDoorW.PrintLast Go.Proofs.YthdfkbkenklcaaaDoorW.PrintMore
attribute [local go_sem] isSome_setCell_eq max2_int min2_int max_two min_two max_three min_three max_four min_four
set_option linter.unusedVariables false
set_option linter.unusedSimpArgs false
attribute [local go_sem high] eqA23
def hibernaclelaw10_IsaEnc.f (k : Nat) (a0_0 : Int) (a0_1 : Int) (a0_2 : Int) (a0_3 : Int) (a0_4 : Int) : Option (Bool) := (hibernaclelaw10_alive.f k).bind fun t199 => (if t199 = true then ((isa_Enc.f k a0_0 a0_1 a0_2 a0_3 a0_4).bind fun bt200 => ((hibernacleref10_Enc.f k a0_0 a0_1 a0_2 a0_3 a0_4).bind fun bt202 => (if bt200.1 = bt202.1 then (if bt200.2 = bt202.2 then ((isa_Dec.f k bt200.1).bind fun bt204 => (if bt200.2 = 0 then (if bt204.2.2.2.2.2 = true then (some (bt204.1 == a0_0 && (bt204.2.1 == a0_1 && (bt204.2.2.1 == a0_2 && (bt204.2.2.2.1 == a0_3 && (bt204.2.2.2.2.1 == a0_4)))))) else (some false)) else (some true))) else (some false)) else (some false)))) else (some false))
theorem hibernaclelaw10_IsaEnc.mono : ∀ a0 a1 a2 a3 a4 k, LeO (hibernaclelaw10_IsaEnc.f k a0 a1 a2 a3 a4) (hibernaclelaw10_IsaEnc.f (k + 1) a0 a1 a2 a3 a4) := by
  intro a0 a1 a2 a3 a4 k
  unfold hibernaclelaw10_IsaEnc.f
  repeat' first
      | (with_reducible exact hibernaclelaw10_alive.mono _)
      | (with_reducible exact hibernacleref10_Enc.mono _ _ _ _ _ _)
      | (with_reducible exact isa_Dec.mono _ _)
      | (with_reducible exact isa_Enc.mono _ _ _ _ _ _)
      | (with_reducible exact LeO.refl _)
      | (with_reducible exact LeO.none _)
      | (with_reducible refine LeO.ite ?_ ?_)
      | (with_reducible refine LeO.bind ?_ (fun _ => ?_))
      | exact hibernaclelaw10_alive.mono _
      | exact hibernacleref10_Enc.mono _ _ _ _ _ _
      | exact isa_Dec.mono _ _
      | exact isa_Enc.mono _ _ _ _ _ _
      | exact LeO.none _
      | refine LeO.ite ?_ ?_
      | refine LeO.bind ?_ (fun _ => ?_)
def hibernacleref10_Dec.j0 : Nat → Int → Bool → Int → Int → Int → Int → Int → Option (Int × Int × Int × Int × Int × Bool)
  | 0, _, _, _, _, _, _, _ => none
  | k + 1, x0, x40, x213000, x213001, x213002, x213003, x213004 => if x40 = true then ((hibernacleref10_Enc.f k x213000 x213001 x213002 x213003 (wrap32 (x213004 - 65536))).bind fun bt217 => (if bt217.2 = 0 then (if bt217.1 = x0 then (some (x213000, x213001, x213002, x213003, wrap32 (x213004 - 65536), true)) else (some (0, 0, 0, 0, 0, false))) else (some (0, 0, 0, 0, 0, false)))) else ((hibernacleref10_Enc.f k x213000 x213001 x213002 x213003 x213004).bind fun bt219 => (if bt219.2 = 0 then (if bt219.1 = x0 then (some (x213000, x213001, x213002, x213003, x213004, true)) else (some (0, 0, 0, 0, 0, false))) else (some (0, 0, 0, 0, 0, false))))
def hibernacleref10_Dec.f (k : Nat) (a0 : Int) : Option (Int × Int × Int × Int × Int × Bool) := (hibernacleref10_Form.f k ((Int.tdiv a0 67108864) % 256)).bind fun t213 => (if t213 = 1 then ((hibernacleref10_Enc.f k ((Int.tdiv a0 67108864) % 256) ((Int.tdiv a0 4194304) % 16) ((Int.tdiv a0 262144) % 16) ((Int.tdiv a0 16384) % 16) 0).bind fun bt214 => (if bt214.2 = 0 then (if bt214.1 = a0 then (some ((Int.tdiv a0 67108864) % 256, (Int.tdiv a0 4194304) % 16, (Int.tdiv a0 262144) % 16, (Int.tdiv a0 16384) % 16, 0, true)) else (some (0, 0, 0, 0, 0, false))) else (some (0, 0, 0, 0, 0, false)))) else (if (wrap32 (Int.tmod a0 65536)) > 32767 then ((hibernacleref10_plain.f ((Int.tdiv a0 67108864) % 256)).bind fun t216 => (hibernacleref10_Dec.j0 k a0 (!t216) ((Int.tdiv a0 67108864) % 256) ((Int.tdiv a0 4194304) % 16) ((Int.tdiv a0 262144) % 16) 0 (wrap32 (Int.tmod a0 65536)))) else (hibernacleref10_Dec.j0 k a0 false ((Int.tdiv a0 67108864) % 256) ((Int.tdiv a0 4194304) % 16) ((Int.tdiv a0 262144) % 16) 0 (wrap32 (Int.tmod a0 65536)))))
theorem hibernacleref10_Dec.mono_l : ∀ k, (∀ y0 y1 y2 y3 y4 y5 y6, LeO (hibernacleref10_Dec.j0 k y0 y1 y2 y3 y4 y5 y6) (hibernacleref10_Dec.j0 (k + 1) y0 y1 y2 y3 y4 y5 y6))
  | 0 => fun _ _ _ _ _ _ _ r h => by simp [hibernacleref10_Dec.j0] at h
  | k + 1 => by
    have ih0 := hibernacleref10_Dec.mono_l k
    · intro y0 y1 y2 y3 y4 y5 y6
      unfold hibernacleref10_Dec.j0
      repeat' first
      | (with_reducible exact ih0 _ _ _ _ _ _ _)
      | (with_reducible exact hibernacleref10_Enc.mono _ _ _ _ _ _)
      | (with_reducible exact hibernacleref10_Form.mono _ _)
      | (with_reducible exact LeO.refl _)
      | (with_reducible exact LeO.none _)
      | (with_reducible refine LeO.ite ?_ ?_)
      | (with_reducible refine LeO.bind ?_ (fun _ => ?_))
      | exact ih0 _ _ _ _ _ _ _
      | exact hibernacleref10_Enc.mono _ _ _ _ _ _
      | exact hibernacleref10_Form.mono _ _
      | exact LeO.none _
      | refine LeO.ite ?_ ?_
      | refine LeO.bind ?_ (fun _ => ?_)
theorem hibernacleref10_Dec.mono : ∀ a0 k, LeO (hibernacleref10_Dec.f k a0) (hibernacleref10_Dec.f (k + 1) a0) := by
  intro a0 k
  have ih0 := hibernacleref10_Dec.mono_l k
  unfold hibernacleref10_Dec.f
  repeat' first
      | (with_reducible exact ih0 _ _ _ _ _ _ _)
      | (with_reducible exact hibernacleref10_Enc.mono _ _ _ _ _ _)
      | (with_reducible exact hibernacleref10_Form.mono _ _)
      | (with_reducible exact LeO.refl _)
      | (with_reducible exact LeO.none _)
      | (with_reducible refine LeO.ite ?_ ?_)
      | (with_reducible refine LeO.bind ?_ (fun _ => ?_))
      | exact ih0 _ _ _ _ _ _ _
      | exact hibernacleref10_Enc.mono _ _ _ _ _ _
      | exact hibernacleref10_Form.mono _ _
      | exact LeO.none _
      | refine LeO.ite ?_ ?_
      | refine LeO.bind ?_ (fun _ => ?_)
def hibernaclelaw10_IsaDec.f (k : Nat) (a0 : Int) : Option (Bool) := (hibernaclelaw10_alive.f k).bind fun t221 => (if t221 = true then ((isa_Dec.f k a0).bind fun bt222 => ((hibernacleref10_Dec.f k a0).bind fun bt229 => (if (!(bt222.1 == bt229.1) || (!(bt222.2.1 == bt229.2.1) || (!(bt222.2.2.1 == bt229.2.2.1) || (!(bt222.2.2.2.1 == bt229.2.2.2.1) || (!(bt222.2.2.2.2.1 == bt229.2.2.2.2.1)))))) = true then (some false) else (if (bt222.2.2.2.2.2 != bt229.2.2.2.2.2) = true then (some false) else ((isa_Enc.f k bt222.1 bt222.2.1 bt222.2.2.1 bt222.2.2.2.1 bt222.2.2.2.2.1).bind fun bt236 => (if bt222.2.2.2.2.2 = true then (if bt236.2 = 0 then (some (bt236.1 == a0)) else (some false)) else (if (bt222.1 == 0 && (bt222.2.1 == 0 && (bt222.2.2.1 == 0 && (bt222.2.2.2.1 == 0 && (bt222.2.2.2.2.1 == 0))))) = true then (some true) else (some false)))))))) else (some false))
theorem hibernaclelaw10_IsaDec.mono : ∀ a0 k, LeO (hibernaclelaw10_IsaDec.f k a0) (hibernaclelaw10_IsaDec.f (k + 1) a0) := by
  intro a0 k
  unfold hibernaclelaw10_IsaDec.f
  repeat' first
      | (with_reducible exact hibernaclelaw10_alive.mono _)
      | (with_reducible exact hibernacleref10_Dec.mono _ _)
      | (with_reducible exact isa_Dec.mono _ _)
      | (with_reducible exact isa_Enc.mono _ _ _ _ _ _)
      | (with_reducible exact LeO.refl _)
      | (with_reducible exact LeO.none _)
      | (with_reducible refine LeO.ite ?_ ?_)
      | (with_reducible refine LeO.bind ?_ (fun _ => ?_))
      | exact hibernaclelaw10_alive.mono _
      | exact hibernacleref10_Dec.mono _ _
      | exact isa_Dec.mono _ _
      | exact isa_Enc.mono _ _ _ _ _ _
      | exact LeO.none _
      | refine LeO.ite ?_ ?_
      | refine LeO.bind ?_ (fun _ => ?_)
end Go.Proofs.YthdfkbkenklcaaaDoor.P
end
section
set_option linter.unusedSimpArgs false
set_option linter.unusedVariables false
namespace Go.Proofs.YthdfkbkenklcaaaDoor.Q
open Go.RowKit Go.Proofs.YthdfkbkenklcaaaDoor.P Go.Proofs.YthdfkbkenklcaaaDoorW.PrintWords Go.Proofs.YthdfkbkenklcaaaDoorW.PrintLast Go.Proofs.YthdfkbkenklcaaaDoorW.PrintMore
theorem al1 : encOf 1 1 2 3 0 = (71876608, 0) := by decide +kernel
theorem al2 : encOf 31 0 0 0 5 = (2080374789, 0) := by decide +kernel
theorem al3 : decOf 0 = (0, 0, 0, 0, 0, false) := by decide +kernel
theorem al4 : (txt 20 1 2 0 4).toList = ([108, 119, 32, 114, 49, 44, 32, 52, 40, 114, 50, 41] : List UInt8) := by decide +kernel
theorem alive_ev : Ev (fun k => hibernaclelaw10_alive.f k) true := by
  unfold hibernaclelaw10_alive.f
  have h1 := enc_ev 1 1 2 3 0 (by omega) (by omega) (by omega) (by omega) (by omega)
  have h2 := enc_ev 31 0 0 0 5 (by omega) (by omega) (by omega) (by omega) (by omega)
  have h3 := dec_all 0 (by omega) (by omega)
  have h4 := text_ev 20 1 2 0 4 (by omega) (by omega) (by omega) (by omega) (by omega) (by omega) (by omega) (by omega) (by omega) (by omega)
  rw [al1] at h1
  rw [al2] at h2
  rw [al3] at h3
  refine Ev.bind h1 (Ev.bind h2 (Ev.bind h3 ?_))
  simp only [if_pos, Bool.false_eq_true, if_false]
  refine Ev.bind h4 ?_
  rw [al4]
  exact Ev.now _
end Go.Proofs.YthdfkbkenklcaaaDoor.Q
end
section
namespace Go.Proofs.YthdfkbkenklcaaaDoor.P
open Go.RowKit Go.Proofs.YthdfkbkenklcaaaDoorW.PrintWords Go.Proofs.YthdfkbkenklcaaaDoorW.PrintLast Go.Proofs.YthdfkbkenklcaaaDoorW.PrintMore
attribute [local go_sem] isSome_setCell_eq max2_int min2_int max_two min_two max_three min_three max_four min_four
set_option linter.unusedVariables false
set_option linter.unusedSimpArgs false
def isa_Op.l0 : Nat → ByteArray → List ByteArray → Int → Int → Option (Int × Bool)
  | 0, _, _, _, _ => none
  | k + 1, x0, x6, x7, x8 => if x8 < x7 then (if 0 ≤ x8 then (if x8 < (x6.length : Int) then (if (rdOf ByteArray.empty x6 x8).toList = x0.toList then (some ((wrap64 (x8 + 1)) % 256, true)) else (isa_Op.l0 k x0 x6 x7 (wrap64 (x8 + 1)))) else (none)) else (none)) else (some (0, false))
def isa_Op.f (k : Nat) (a0 : ByteArray) : Option (Int × Bool) := (strings_Split.f (⟨#[97, 100, 100, 32, 115, 117, 98, 32, 109, 117, 108, 32, 100, 105, 118, 32, 114, 101, 109, 32, 97, 110, 100, 32, 111, 114, 32, 120, 111, 114, 32, 115, 104, 108, 32, 115, 104, 114, 32, 115, 97, 114, 32, 115, 108, 116, 32, 115, 108, 116, 117, 32, 97, 100, 100, 105, 32, 97, 110, 100, 105, 32, 111, 114, 105, 32, 120, 111, 114, 105, 32, 115, 108, 116, 105, 32, 108, 117, 105, 32, 108, 119, 32, 108, 98, 32, 108, 98, 117, 32, 115, 119, 32, 115, 98, 32, 98, 101, 113, 32, 98, 110, 101, 32, 98, 108, 116, 32, 98, 108, 116, 117, 32, 106, 97, 108, 32, 106, 97, 108, 114, 32, 115, 121, 115]⟩ : ByteArray) (⟨#[32]⟩ : ByteArray)).bind fun t306 => (isa_Op.l0 k a0 t306 (t306.length : Int) 0)
theorem isa_Op.mono_l : ∀ k, (∀ y0 y1 y2 y3, LeO (isa_Op.l0 k y0 y1 y2 y3) (isa_Op.l0 (k + 1) y0 y1 y2 y3))
  | 0 => fun _ _ _ _ r h => by simp [isa_Op.l0] at h
  | k + 1 => by
    have ih0 := isa_Op.mono_l k
    · intro y0 y1 y2 y3
      unfold isa_Op.l0
      repeat' first
      | (with_reducible exact ih0 _ _ _ _)
      | (with_reducible exact LeO.refl _)
      | (with_reducible exact LeO.none _)
      | (with_reducible refine LeO.ite ?_ ?_)
      | (with_reducible refine LeO.bind ?_ (fun _ => ?_))
      | exact ih0 _ _ _ _
      | exact LeO.none _
      | refine LeO.ite ?_ ?_
      | refine LeO.bind ?_ (fun _ => ?_)
theorem isa_Op.mono : ∀ a0 k, LeO (isa_Op.f k a0) (isa_Op.f (k + 1) a0) := by
  intro a0 k
  have ih0 := isa_Op.mono_l k
  unfold isa_Op.f
  repeat' first
      | (with_reducible exact ih0 _ _ _ _)
      | (with_reducible exact LeO.refl _)
      | (with_reducible exact LeO.none _)
      | (with_reducible refine LeO.ite ?_ ?_)
      | (with_reducible refine LeO.bind ?_ (fun _ => ?_))
      | exact ih0 _ _ _ _
      | exact LeO.none _
      | refine LeO.ite ?_ ?_
      | refine LeO.bind ?_ (fun _ => ?_)
def hibernaclelaw10_IsaText.l0 : Nat → ByteArray → Int → Int → Int → Int → Int → Int → Option (Bool)
  | 0, _, _, _, _, _, _, _ => none
  | k + 1, x3, x4, x311000, x311001, x311002, x311003, x311004 => if x4 < (x3.size : Int) then (if 0 ≤ x4 then (if (bt x3 x4) = 32 then (if x4 ≤ (x3.size : Int) then ((isa_Op.f k (x3.extract 0 (x4 : Int).toNat)).bind fun bt314 => (if x3.toList = ([] : List UInt8) then (if bt314.2 = true then (some (bt314.1 == x311000)) else (some true)) else (if bt314.2 = true then (some (bt314.1 == x311000)) else (some false)))) else (none)) else (hibernaclelaw10_IsaText.l0 k x3 (wrap64 (x4 + 1)) x311000 x311001 x311002 x311003 x311004)) else (none)) else (if 0 ≤ x4 then (if x4 ≤ (x3.size : Int) then ((isa_Op.f k (x3.extract 0 (x4 : Int).toNat)).bind fun bt316 => (if x3.toList = ([] : List UInt8) then (if bt316.2 = true then (some (bt316.1 == x311000)) else (some true)) else (if bt316.2 = true then (some (bt316.1 == x311000)) else (some false)))) else (none)) else (none))
def hibernaclelaw10_IsaText.f (k : Nat) (a0_0 : Int) (a0_1 : Int) (a0_2 : Int) (a0_3 : Int) (a0_4 : Int) : Option (Bool) := (hibernaclelaw10_alive.f k).bind fun t311 => (if t311 = true then ((isa_Text.f k a0_0 a0_1 a0_2 a0_3 a0_4).bind fun t312 => ((hibernacleref10_Text.f k a0_0 a0_1 a0_2 a0_3 a0_4).bind fun t313 => (if t312.toList = t313.toList then (hibernaclelaw10_IsaText.l0 k t312 0 a0_0 a0_1 a0_2 a0_3 a0_4) else (some false)))) else (some false))
theorem hibernaclelaw10_IsaText.mono_l : ∀ k, (∀ y0 y1 y2 y3 y4 y5 y6, LeO (hibernaclelaw10_IsaText.l0 k y0 y1 y2 y3 y4 y5 y6) (hibernaclelaw10_IsaText.l0 (k + 1) y0 y1 y2 y3 y4 y5 y6))
  | 0 => fun _ _ _ _ _ _ _ r h => by simp [hibernaclelaw10_IsaText.l0] at h
  | k + 1 => by
    have ih0 := hibernaclelaw10_IsaText.mono_l k
    · intro y0 y1 y2 y3 y4 y5 y6
      unfold hibernaclelaw10_IsaText.l0
      repeat' first
      | (with_reducible exact ih0 _ _ _ _ _ _ _)
      | (with_reducible exact hibernaclelaw10_alive.mono _)
      | (with_reducible exact hibernacleref10_Text.mono _ _ _ _ _ _)
      | (with_reducible exact isa_Op.mono _ _)
      | (with_reducible exact isa_Text.mono _ _ _ _ _ _)
      | (with_reducible exact LeO.refl _)
      | (with_reducible exact LeO.none _)
      | (with_reducible refine LeO.ite ?_ ?_)
      | (with_reducible refine LeO.bind ?_ (fun _ => ?_))
      | exact ih0 _ _ _ _ _ _ _
      | exact hibernaclelaw10_alive.mono _
      | exact hibernacleref10_Text.mono _ _ _ _ _ _
      | exact isa_Op.mono _ _
      | exact isa_Text.mono _ _ _ _ _ _
      | exact LeO.none _
      | refine LeO.ite ?_ ?_
      | refine LeO.bind ?_ (fun _ => ?_)
theorem hibernaclelaw10_IsaText.mono : ∀ a0 a1 a2 a3 a4 k, LeO (hibernaclelaw10_IsaText.f k a0 a1 a2 a3 a4) (hibernaclelaw10_IsaText.f (k + 1) a0 a1 a2 a3 a4) := by
  intro a0 a1 a2 a3 a4 k
  have ih0 := hibernaclelaw10_IsaText.mono_l k
  unfold hibernaclelaw10_IsaText.f
  repeat' first
      | (with_reducible exact ih0 _ _ _ _ _ _ _)
      | (with_reducible exact hibernaclelaw10_alive.mono _)
      | (with_reducible exact hibernacleref10_Text.mono _ _ _ _ _ _)
      | (with_reducible exact isa_Op.mono _ _)
      | (with_reducible exact isa_Text.mono _ _ _ _ _ _)
      | (with_reducible exact LeO.refl _)
      | (with_reducible exact LeO.none _)
      | (with_reducible refine LeO.ite ?_ ?_)
      | (with_reducible refine LeO.bind ?_ (fun _ => ?_))
      | exact ih0 _ _ _ _ _ _ _
      | exact hibernaclelaw10_alive.mono _
      | exact hibernacleref10_Text.mono _ _ _ _ _ _
      | exact isa_Op.mono _ _
      | exact isa_Text.mono _ _ _ _ _ _
      | exact LeO.none _
      | refine LeO.ite ?_ ?_
      | refine LeO.bind ?_ (fun _ => ?_)
def hibernacleref10_Op.l0 : Nat → ByteArray → List ByteArray → Int → Option (Int × Bool)
  | 0, _, _, _ => none
  | k + 1, x0, x4, x5 => if x5 < (x4.length : Int) then (if 0 ≤ x5 then (if (rdOf ByteArray.empty x4 x5).toList = x0.toList then (some ((wrap64 (x5 + 1)) % 256, true)) else (hibernacleref10_Op.l0 k x0 x4 (wrap64 (x5 + 1)))) else (none)) else (some (0, false))
def hibernacleref10_Op.f (k : Nat) (a0 : ByteArray) : Option (Int × Bool) := (hibernacleref10_names.f).bind fun t318 => (hibernacleref10_Op.l0 k a0 t318 0)
theorem hibernacleref10_Op.mono_l : ∀ k, (∀ y0 y1 y2, LeO (hibernacleref10_Op.l0 k y0 y1 y2) (hibernacleref10_Op.l0 (k + 1) y0 y1 y2))
  | 0 => fun _ _ _ r h => by simp [hibernacleref10_Op.l0] at h
  | k + 1 => by
    have ih0 := hibernacleref10_Op.mono_l k
    · intro y0 y1 y2
      unfold hibernacleref10_Op.l0
      repeat' first
      | (with_reducible exact ih0 _ _ _)
      | (with_reducible exact LeO.refl _)
      | (with_reducible exact LeO.none _)
      | (with_reducible refine LeO.ite ?_ ?_)
      | (with_reducible refine LeO.bind ?_ (fun _ => ?_))
      | exact ih0 _ _ _
      | exact LeO.none _
      | refine LeO.ite ?_ ?_
      | refine LeO.bind ?_ (fun _ => ?_)
theorem hibernacleref10_Op.mono : ∀ a0 k, LeO (hibernacleref10_Op.f k a0) (hibernacleref10_Op.f (k + 1) a0) := by
  intro a0 k
  have ih0 := hibernacleref10_Op.mono_l k
  unfold hibernacleref10_Op.f
  repeat' first
      | (with_reducible exact ih0 _ _ _)
      | (with_reducible exact LeO.refl _)
      | (with_reducible exact LeO.none _)
      | (with_reducible refine LeO.ite ?_ ?_)
      | (with_reducible refine LeO.bind ?_ (fun _ => ?_))
      | exact ih0 _ _ _
      | exact LeO.none _
      | refine LeO.ite ?_ ?_
      | refine LeO.bind ?_ (fun _ => ?_)
def hibernaclelaw10_IsaOp.f (k : Nat) (a0 : ByteArray) (a1 : Int) : Option (Bool) := (hibernaclelaw10_alive.f k).bind fun t322 => (if t322 = true then (if (a0.size : Int) > 50 then (some true) else ((isa_Op.f k a0).bind fun bt323 => ((hibernacleref10_Op.f k a0).bind fun bt325 => ((isa_Enc.f k a1 0 0 0 0).bind fun bt328 => (if bt323.1 = bt325.1 then (if (bt323.2 == bt325.2) = true then (if ((decide (bt323.1 > 0)) == bt323.2) = true then (if a1 ≥ 1 then (some ((bt328.2 == 0) == (decide (a1 ≤ 31)))) else (some ((bt328.2 == 0) == false))) else (some false)) else (some false)) else (some false)))))) else (some false))
theorem hibernaclelaw10_IsaOp.mono : ∀ a0 a1 k, LeO (hibernaclelaw10_IsaOp.f k a0 a1) (hibernaclelaw10_IsaOp.f (k + 1) a0 a1) := by
  intro a0 a1 k
  unfold hibernaclelaw10_IsaOp.f
  repeat' first
      | (with_reducible exact hibernaclelaw10_alive.mono _)
      | (with_reducible exact hibernacleref10_Op.mono _ _)
      | (with_reducible exact isa_Enc.mono _ _ _ _ _ _)
      | (with_reducible exact isa_Op.mono _ _)
      | (with_reducible exact LeO.refl _)
      | (with_reducible exact LeO.none _)
      | (with_reducible refine LeO.ite ?_ ?_)
      | (with_reducible refine LeO.bind ?_ (fun _ => ?_))
      | exact hibernaclelaw10_alive.mono _
      | exact hibernacleref10_Op.mono _ _
      | exact isa_Enc.mono _ _ _ _ _ _
      | exact isa_Op.mono _ _
      | exact LeO.none _
      | refine LeO.ite ?_ ?_
      | refine LeO.bind ?_ (fun _ => ?_)
end Go.Proofs.YthdfkbkenklcaaaDoor.P
end
section
set_option linter.unusedSimpArgs false
set_option linter.unusedVariables false
namespace Go.Proofs.YthdfkbkenklcaaaDoor.Q
open Go.RowKit Go.Proofs.YthdfkbkenklcaaaDoor.P Go.Proofs.YthdfkbkenklcaaaDoorW.PrintWords Go.Proofs.YthdfkbkenklcaaaDoorW.PrintLast Go.Proofs.YthdfkbkenklcaaaDoorW.PrintMore
def fnd : List ByteArray → ByteArray → Int → Int × Bool
  | [], _, _ => (0, false)
  | y :: ys, x, i => if y.toList = x.toList then (i + 1, true) else fnd ys x (i + 1)
def opOf (x : ByteArray) : Int × Bool := fnd nmL x 0
theorem nm_names : ∀ m : Fin 31, opOf (nm ((m.val : Int) + 1)) = ((m.val : Int) + 1, true) := by decide +kernel
theorem opOf_nm (o : Int) (h0 : 1 ≤ o) (h1 : o ≤ 31) : opOf (nm o) = (o, true) := by
  have h := nm_names ⟨(o - 1).toNat, by omega⟩
  have e : (((o - 1).toNat : Nat) : Int) + 1 = o := by omega
  simp only [e] at h
  exact h
theorem nm_blanks : ∀ m : Fin 31, (32 : UInt8) ∉ (nm ((m.val : Int) + 1)).data.toList := by decide +kernel
theorem nm_blank (o : Int) (h0 : 1 ≤ o) (h1 : o ≤ 31) : (32 : UInt8) ∉ (nm o).data.toList := by
  have h := nm_blanks ⟨(o - 1).toNat, by omega⟩
  have e : (((o - 1).toNat : Nat) : Int) + 1 = o := by omega
  simp only [e] at h
  exact h
theorem bl_loop (bs : ByteArray) : ∀ (d i : Nat) (r : List UInt8), i + d = bs.size → ByteArray.toList.loop bs i r = r.reverse ++ bs.data.toList.drop i := by
  intro d
  induction d with
  | zero =>
    intro i r h
    unfold ByteArray.toList.loop
    rw [if_neg (by omega), List.drop_of_length_le (by rw [Array.length_toList]; show bs.size ≤ i; omega), List.append_nil]
  | succ d ih =>
    intro i r h
    unfold ByteArray.toList.loop
    have hl : i < bs.data.toList.length := by rw [Array.length_toList]; show i < bs.size; omega
    rw [if_pos (by omega), ih (i + 1) _ (by omega), List.drop_eq_getElem_cons hl]
    have : bs.get! i = bs.data.toList[i] := by
      show bs.data[i]! = _
      rw [getElem!_pos bs.data i (by show i < bs.size; omega)]; simp
    rw [this]; simp
theorem bl (bs : ByteArray) : bs.toList = bs.data.toList := by
  unfold ByteArray.toList
  rw [bl_loop bs bs.size 0 [] (by omega)]; simp
end Go.Proofs.YthdfkbkenklcaaaDoor.Q
end
section
set_option linter.unusedSimpArgs false
set_option linter.unusedVariables false
namespace Go.Proofs.YthdfkbkenklcaaaDoor.Q
open Go.RowKit Go.Proofs.YthdfkbkenklcaaaDoor.P Go.Proofs.YthdfkbkenklcaaaDoorW.PrintWords Go.Proofs.YthdfkbkenklcaaaDoorW.PrintLast Go.Proofs.YthdfkbkenklcaaaDoorW.PrintMore
theorem split_first {α : Type} {x : α} : ∀ {l1 l2 r1 r2 : List α}, x ∉ l1 → x ∉ l2 → l1 ++ x :: r1 = l2 ++ x :: r2 → l1 = l2 ∧ r1 = r2
  | [], [], _, _, _, _, h => ⟨rfl, (List.cons.inj h).2⟩
  | [], y :: l2, _, _, _, h2, h => absurd (List.mem_cons.2 (Or.inl (List.cons.inj h).1)) h2
  | y :: l1, [], _, _, h1, _, h => absurd (List.mem_cons.2 (Or.inl (List.cons.inj h).1.symm)) h1
  | y :: l1, z :: l2, _, _, h1, h2, h => by
    obtain ⟨e1, e2⟩ := List.cons.inj h
    obtain ⟨e3, e4⟩ := split_first (fun k => h1 (List.mem_cons.2 (Or.inr k))) (fun k => h2 (List.mem_cons.2 (Or.inr k))) e2
    exact ⟨by rw [e1, e3], e4⟩
def dval (l : List UInt8) : Nat := l.foldl (fun a x => a * 10 + (x.toNat - 48)) 0
theorem dval_digits : ∀ u : Nat, dval (Lib.decDigits u) = u := by
  intro u
  induction u using Nat.strongRecOn with
  | _ u ih =>
  by_cases h : u < 10
  · rw [Lib.decDigits_one h]
    show 0 * 10 + ((UInt8.ofNat (48 + u)).toNat - 48) = u
    have : (UInt8.ofNat (48 + u)).toNat = 48 + u := by simp; omega
    omega
  · rw [Lib.decDigits, dif_neg h]
    unfold dval
    rw [List.foldl_append]
    have := ih (u / 10) (by omega)
    unfold dval at this
    rw [this]
    show (u / 10) * 10 + ((UInt8.ofNat (48 + u % 10)).toNat - 48) = u
    have : (UInt8.ofNat (48 + u % 10)).toNat = 48 + u % 10 := by simp; omega
    omega
theorem dig_in : ∀ u : Nat, ∀ x ∈ Lib.decDigits u, 48 ≤ x.toNat ∧ x.toNat ≤ 57 := by
  intro u
  induction u using Nat.strongRecOn with
  | _ u ih =>
  by_cases h : u < 10
  · rw [Lib.decDigits_one h]
    intro x hx
    rw [List.mem_singleton] at hx
    subst hx
    have : (UInt8.ofNat (48 + u)).toNat = 48 + u := by simp; omega
    omega
  · rw [Lib.decDigits, dif_neg h]
    intro x hx
    rcases List.mem_append.1 hx with hx | hx
    · exact ih (u / 10) (by omega) x hx
    · rw [List.mem_singleton] at hx
      subst hx
      have : (UInt8.ofNat (48 + u % 10)).toNat = 48 + u % 10 := by simp; omega
      omega
theorem itoa_in (n : Int) : ∀ x ∈ Lib.itoa n, x.toNat = 45 ∨ (48 ≤ x.toNat ∧ x.toNat ≤ 57) := by
  intro x hx
  unfold Lib.itoa at hx
  split at hx
  · rcases List.mem_cons.1 hx with rfl | hx
    · exact Or.inl rfl
    · exact Or.inr (dig_in _ x hx)
  · exact Or.inr (dig_in _ x hx)
theorem itoa_not (n : Int) (x : UInt8) (h : x.toNat = 40 ∨ x.toNat = 41 ∨ x.toNat = 44) : x ∉ Lib.itoa n := fun k => by
  have := itoa_in n x k
  omega
theorem itoa_inj {m n : Int} (h : Lib.itoa m = Lib.itoa n) : m = n := by
  unfold Lib.itoa at h
  have ne : ∀ u v : Nat, (45 : UInt8) :: Lib.decDigits u ≠ Lib.decDigits v := by
    intro u v k
    have := dig_in v 45 (by rw [← k]; exact List.mem_cons_self)
    have e : (45 : UInt8).toNat = 45 := rfl
    omega
  by_cases hm : m < 0
  · by_cases hn : n < 0
    · rw [if_pos hm, if_pos hn] at h
      have := congrArg dval (List.cons.inj h).2
      rw [dval_digits, dval_digits] at this
      omega
    · rw [if_pos hm, if_neg hn] at h
      exact absurd h (ne _ _)
  · by_cases hn : n < 0
    · rw [if_neg hm, if_pos hn] at h
      exact absurd h.symm (ne _ _)
    · rw [if_neg hm, if_neg hn] at h
      have := congrArg dval h
      rw [dval_digits, dval_digits] at this
      omega
def dl (n : Int) : List UInt8 := Lib.itoa n
theorem itb_list (n : Int) : (itb n).data.toList = dl n := by unfold itb dl; simp
theorem rg_list (n : Int) : (rg n).data.toList = 114 :: dl n := by unfold rg; rw [ByteArray.data_append, Array.toList_append, itb_list]; rfl
def tail (f a b c n : Int) : List UInt8 :=
  if f = 114 then 114 :: (dl a ++ 44 :: 32 :: 114 :: (dl b ++ 44 :: 32 :: 114 :: dl c))
  else if f = 105 then 114 :: (dl a ++ 44 :: 32 :: 114 :: (dl b ++ 44 :: 32 :: dl n))
  else if f = 108 then 114 :: (dl a ++ 44 :: 32 :: dl n)
  else if f = 109 then 114 :: (dl a ++ 44 :: 32 :: (dl n ++ 40 :: 114 :: (dl b ++ [41])))
  else dl n
theorem txt_list {o a b c n w : Int} (h : encOf o a b c n = (w, 0)) : (txt o a b c n).data.toList = (nm o).data.toList ++ 32 :: tail (frm o) a b c n := by
  unfold txt tail
  rw [h, if_pos rfl]
  by_cases f1 : frm o = 114
  · rw [if_pos f1, if_pos f1]; simp [ByteArray.data_append, rg_list, itb_list]
  rw [if_neg f1, if_neg f1]
  by_cases f2 : frm o = 105
  · rw [if_pos f2, if_pos f2]; simp [ByteArray.data_append, rg_list, itb_list]
  rw [if_neg f2, if_neg f2]
  by_cases f3 : frm o = 108
  · rw [if_pos f3, if_pos f3]; simp [ByteArray.data_append, rg_list, itb_list]
  rw [if_neg f3, if_neg f3]
  by_cases f4 : frm o = 109
  · rw [if_pos f4, if_pos f4]; simp [ByteArray.data_append, rg_list, itb_list]
  rw [if_neg f4, if_neg f4]; simp [ByteArray.data_append, itb_list]
theorem no44 (n : Int) : (44 : UInt8) ∉ dl n := itoa_not n 44 (Or.inr (Or.inr rfl))
theorem no40 (n : Int) : (40 : UInt8) ∉ dl n := itoa_not n 40 (Or.inl rfl)
theorem no41 (n : Int) : (41 : UInt8) ∉ dl n := itoa_not n 41 (Or.inr (Or.inl rfl))
theorem tail_inj {f a b c n a' b' c' n' : Int} (hf : f = 114 ∨ f = 105 ∨ f = 108 ∨ f = 109 ∨ f = 110) (h : tail f a b c n = tail f a' b' c' n') :
    (f ≠ 110 → a = a') ∧ ((f = 114 ∨ f = 105 ∨ f = 109) → b = b') ∧ (f = 114 → c = c') ∧ (f ≠ 114 → n = n') := by
  unfold tail at h
  rcases hf with rfl | rfl | rfl | rfl | rfl
  · simp only [if_pos] at h
    obtain ⟨e1, h⟩ := split_first (no44 _) (no44 _) (List.cons.inj h).2
    obtain ⟨e2, h⟩ := split_first (no44 _) (no44 _) (List.cons.inj (List.cons.inj h).2).2
    have e3 := (List.cons.inj (List.cons.inj h).2).2
    have := itoa_inj e1
    have := itoa_inj e2
    have := itoa_inj e3
    omega
  · rw [if_neg (by decide), if_pos rfl, if_neg (by decide), if_pos rfl] at h
    obtain ⟨e1, h⟩ := split_first (no44 _) (no44 _) (List.cons.inj h).2
    obtain ⟨e2, h⟩ := split_first (no44 _) (no44 _) (List.cons.inj (List.cons.inj h).2).2
    have e3 := (List.cons.inj h).2
    have := itoa_inj e1
    have := itoa_inj e2
    have := itoa_inj e3
    omega
  · rw [if_neg (by decide), if_neg (by decide), if_pos rfl, if_neg (by decide), if_neg (by decide), if_pos rfl] at h
    obtain ⟨e1, h⟩ := split_first (no44 _) (no44 _) (List.cons.inj h).2
    have e3 := (List.cons.inj h).2
    have := itoa_inj e1
    have := itoa_inj e3
    omega
  · rw [if_neg (by decide), if_neg (by decide), if_neg (by decide), if_pos rfl, if_neg (by decide), if_neg (by decide), if_neg (by decide), if_pos rfl] at h
    obtain ⟨e1, h⟩ := split_first (no44 _) (no44 _) (List.cons.inj h).2
    obtain ⟨e2, h⟩ := split_first (no40 _) (no40 _) (List.cons.inj h).2
    obtain ⟨e3, _⟩ := split_first (no41 _) (no41 _) (List.cons.inj h).2
    have := itoa_inj e1
    have := itoa_inj e2
    have := itoa_inj e3
    omega
  · rw [if_neg (by decide), if_neg (by decide), if_neg (by decide), if_neg (by decide), if_neg (by decide), if_neg (by decide), if_neg (by decide), if_neg (by decide)] at h
    have := itoa_inj h
    omega
theorem txt_inj {o a b c n w o' a' b' c' n' w' : Int} (h1 : encOf o a b c n = (w, 0)) (h2 : encOf o' a' b' c' n' = (w', 0)) (h : (txt o a b c n).toList = (txt o' a' b' c' n').toList) :
    o = o' ∧ a = a' ∧ b = b' ∧ c = c' ∧ n = n' := by
  rw [bl, bl, txt_list h1, txt_list h2] at h
  obtain ⟨hf, hb, _, _⟩ := enc_ok h1
  obtain ⟨hf', hb', _, _⟩ := enc_ok h2
  obtain ⟨g0, g1⟩ := frm_ne hf
  obtain ⟨g0', g1'⟩ := frm_ne hf'
  obtain ⟨e1, e2⟩ := split_first (nm_blank o g0 g1) (nm_blank o' g0' g1') h
  have e3 : nm o = nm o' := ByteArray.ext (Array.ext' e1)
  have e4 := opOf_nm o g0 g1
  rw [e3, opOf_nm o' g0' g1'] at e4
  have e5 : o' = o := (Prod.mk.inj e4).1
  subst e5
  obtain ⟨i1, i2, i3, i4⟩ := tail_inj (frm_lt hf) e2
  obtain ⟨_, _, _, p1, p2, p3, p4⟩ := bad_no hb
  obtain ⟨_, _, _, q1, q2, q3, q4⟩ := bad_no hb'
  refine ⟨rfl, ?_, ?_, ?_, ?_⟩
  · by_cases k : frm o' = 110
    · rw [p1 k, q1 k]
    · exact i1 k
  · by_cases k : frm o' = 114 ∨ frm o' = 105 ∨ frm o' = 109
    · exact i2 k
    · rw [p2 k, q2 k]
  · by_cases k : frm o' = 114
    · exact i3 k
    · rw [p3 k, q3 k]
  · by_cases k : frm o' = 114
    · rw [p4 k, q4 k]
    · exact i4 k
theorem enc_inj {o a b c n w o' a' b' c' n' : Int} (o0 : 0 ≤ o) (o1 : o < 256) (a0 : 0 ≤ a) (b0 : 0 ≤ b) (c0 : 0 ≤ c) (o0' : 0 ≤ o') (o1' : o' < 256) (a0' : 0 ≤ a') (b0' : 0 ≤ b') (c0' : 0 ≤ c')
    (h1 : encOf o a b c n = (w, 0)) (h2 : encOf o' a' b' c' n' = (w, 0)) : o = o' ∧ a = a' ∧ b = b' ∧ c = c' ∧ n = n' := by
  obtain ⟨_, _, e⟩ := parts_enc o0 o1 a0 b0 c0 h1
  obtain ⟨_, _, e'⟩ := parts_enc o0' o1' a0' b0' c0' h2
  rw [e] at e'
  simpa using e'
def same (o a b c n o' a' b' c' n' : Int) : Bool := o == o' && (a == a' && (b == b' && (c == c' && (n == n'))))
theorem same_iff {o a b c n o' a' b' c' n' : Int} : same o a b c n o' a' b' c' n' = true ↔ o = o' ∧ a = a' ∧ b = b' ∧ c = c' ∧ n = n' := by
  unfold same; simp
theorem IsaUnlike_ev (o a b c n o' a' b' c' n' : Int) (o0 : 0 ≤ o) (o1 : o < 256) (a0 : 0 ≤ a) (a1 : a < 256) (b0 : 0 ≤ b) (b1 : b < 256) (c0 : 0 ≤ c) (c1 : c < 256) (n0 : -2147483648 ≤ n) (n1 : n ≤ 2147483647)
    (o0' : 0 ≤ o') (o1' : o' < 256) (a0' : 0 ≤ a') (a1' : a' < 256) (b0' : 0 ≤ b') (b1' : b' < 256) (c0' : 0 ≤ c') (c1' : c' < 256) (n0' : -2147483648 ≤ n') (n1' : n' ≤ 2147483647) :
    Ev (fun k => hibernaclelaw10_IsaUnlike.f k o a b c n o' a' b' c' n') true := by
  unfold hibernaclelaw10_IsaUnlike.f
  refine Ev.bind alive_ev ?_
  simp only [if_pos]
  have T := text_ev o a b c n o0 o1 a0 a1 b0 b1 c0 c1 n0 n1
  have T' := text_ev o' a' b' c' n' o0' o1' a0' a1' b0' b1' c0' c1' n0' n1'
  refine Ev.bind (enc_ev o a b c n o0 o1 a0 b0 c0) (Ev.bind (enc_ev o' a' b' c' n' o0' o1' a0' b0' c0') ?_)
  have hend : Ev (fun k => hibernaclelaw10_IsaUnlike.j0 k (encOf o a b c n).1 (encOf o a b c n).2 (encOf o' a' b' c' n').1 true o a b c n o' a' b' c' n') true := by
    refine Ev.step (f := fun k => if (encOf o a b c n).2 = 0 then some true else (isa_Text.f k o a b c n).bind fun t245 => some (t245.toList == ([] : List UInt8))) (fun k => by simp only [hibernaclelaw10_IsaUnlike.j0]; rw [if_pos trivial]) ?_
    by_cases h : (encOf o a b c n).2 = 0
    · simp only [if_pos h]; exact Ev.now _
    · simp only [if_neg h]
      refine Ev.bind T ?_
      have e : txt o a b c n = (⟨#[]⟩ : ByteArray) := by unfold txt; rw [if_neg h]
      rw [e, bl]
      exact Ev.now _
  by_cases h : (encOf o a b c n).2 = 0
  · refine Ev.congr (fun k => if_pos h) ?_
    by_cases h' : (encOf o' a' b' c' n').2 = 0
    · have hw : encOf o a b c n = ((encOf o a b c n).1, 0) := by rw [← h]
      have hw' : encOf o' a' b' c' n' = ((encOf o' a' b' c' n').1, 0) := by rw [← h']
      have e0 : ((encOf o' a' b' c' n').2 != 0) = false := by rw [h']; rfl
      have s1 : (((encOf o a b c n).1 == (encOf o' a' b' c' n').1) == same o a b c n o' a' b' c' n') = true := by
        rw [beq_iff_eq, Bool.eq_iff_iff, beq_iff_eq, same_iff]
        constructor
        · intro e
          rw [← e] at hw'
          exact enc_inj o0 o1 a0 b0 c0 o0' o1' a0' b0' c0' hw hw'
        · rintro ⟨rfl, rfl, rfl, rfl, rfl⟩
          rfl
      have s2 : (((txt o a b c n).toList == (txt o' a' b' c' n').toList) == same o a b c n o' a' b' c' n') = true := by
        rw [beq_iff_eq, Bool.eq_iff_iff, beq_iff_eq, same_iff]
        constructor
        · intro e
          exact txt_inj hw hw' e
        · rintro ⟨rfl, rfl, rfl, rfl, rfl⟩
          rfl
      rw [e0]
      refine Ev.step (f := fun k => (isa_Text.f k o a b c n).bind fun t246 => (isa_Text.f k o' a' b' c' n').bind fun t247 => some ((t246.toList == t247.toList) == same o a b c n o' a' b' c' n')) (fun k => ?_) ?_
      · simp only [hibernaclelaw10_IsaUnlike.j0]
        rw [if_neg (by simp)]
        exact if_pos s1
      · refine Ev.bind T (Ev.bind T' ?_)
        rw [s2]
        exact Ev.now _
    · have e0 : ((encOf o' a' b' c' n').2 != 0) = true := by simpa using h'
      rw [e0]
      exact hend
  · exact Ev.congr (fun k => if_neg h) hend
end Go.Proofs.YthdfkbkenklcaaaDoor.Q
end
section
namespace Go.Proofs.YthdfkbkenklcaaaDoor.Q
open Go.Proofs.YthdfkbkenklcaaaDoor.P Go.Proofs.YthdfkbkenklcaaaDoorW.PrintWords
theorem IsaUnlike_row (o a b c n : Int) (h : Ix.Ok o a b c n) (o' a' b' c' n' : Int) (h' : Ix.Ok o' a' b' c' n') : Ev (fun k => hibernaclelaw10_IsaUnlike.f k o a b c n o' a' b' c' n') true :=
  IsaUnlike_ev o a b c n o' a' b' c' n' h.o0 h.o1 h.a0 h.a1 h.b0 h.b1 h.c0 h.c1 h.n0 h.n1 h'.o0 h'.o1 h'.a0 h'.a1 h'.b0 h'.b1 h'.c0 h'.c1 h'.n0 h'.n1
end Go.Proofs.YthdfkbkenklcaaaDoor.Q
end
