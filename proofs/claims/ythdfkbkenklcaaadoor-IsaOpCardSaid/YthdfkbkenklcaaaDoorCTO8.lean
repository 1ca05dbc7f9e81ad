-- Printed for this claim and put together by wip/tools/prune.py.
import Derived.Test.YthdfkbkenklcaaaDoorCTO1
import Derived.Test.YthdfkbkenklcaaaDoorCTO2
import Derived.Test.YthdfkbkenklcaaaDoorCTO3
import Derived.Test.YthdfkbkenklcaaaDoorCTO5
import Derived.Test.YthdfkbkenklcaaaDoorCTO6
import Derived.Test.YthdfkbkenklcaaaDoorCTO7
set_option linter.unusedVariables false
set_option linter.unusedSimpArgs false
section
namespace Go.Proofs.YthdfkbkenklcaaaDoor.P
open Go.RowKit Go.Proofs.YthdfkbkenklcaaaDoorW.PrintWords Go.Proofs.YthdfkbkenklcaaaDoorW.PrintLast Go.Proofs.YthdfkbkenklcaaaDoorW.PrintMore
attribute [local go_sem] isSome_setCell_eq max2_int min2_int max_two min_two max_three min_three max_four min_four
set_option linter.unusedVariables false
set_option linter.unusedSimpArgs false
attribute [local go_sem high] eqA23
def hibernaclelaw10_IsaUnlike.j0 : Nat → Int → Int → Int → Bool → Int → Int → Int → Int → Int → Int → Int → Int → Int → Int → Option (Bool)
  | 0, _, _, _, _, _, _, _, _, _, _, _, _, _, _ => none
  | k + 1, x5, x6, x7, x26, x239000, x239001, x239002, x239003, x239004, x240000, x240001, x240002, x240003, x240004 => if x26 = true then (if x6 = 0 then (some true) else ((isa_Text.f k x239000 x239001 x239002 x239003 x239004).bind fun t245 => (some (t245.toList == ([] : List UInt8))))) else (if ((x5 == x7) == (x239000 == x240000 && (x239001 == x240001 && (x239002 == x240002 && (x239003 == x240003 && (x239004 == x240004)))))) = true then ((isa_Text.f k x239000 x239001 x239002 x239003 x239004).bind fun t246 => ((isa_Text.f k x240000 x240001 x240002 x240003 x240004).bind fun t247 => (some ((t246.toList == t247.toList) == (x239000 == x240000 && (x239001 == x240001 && (x239002 == x240002 && (x239003 == x240003 && (x239004 == x240004))))))))) else (some false))
def hibernaclelaw10_IsaUnlike.f (k : Nat) (a0_0 : Int) (a0_1 : Int) (a0_2 : Int) (a0_3 : Int) (a0_4 : Int) (a1_0 : Int) (a1_1 : Int) (a1_2 : Int) (a1_3 : Int) (a1_4 : Int) : Option (Bool) := (hibernaclelaw10_alive.f k).bind fun t240 => (if t240 = true then ((isa_Enc.f k a0_0 a0_1 a0_2 a0_3 a0_4).bind fun bt241 => ((isa_Enc.f k a1_0 a1_1 a1_2 a1_3 a1_4).bind fun bt243 => (if bt241.2 = 0 then (hibernaclelaw10_IsaUnlike.j0 k bt241.1 bt241.2 bt243.1 (bt243.2 != 0) a0_0 a0_1 a0_2 a0_3 a0_4 a1_0 a1_1 a1_2 a1_3 a1_4) else (hibernaclelaw10_IsaUnlike.j0 k bt241.1 bt241.2 bt243.1 true a0_0 a0_1 a0_2 a0_3 a0_4 a1_0 a1_1 a1_2 a1_3 a1_4)))) else (some false))
theorem hibernaclelaw10_IsaUnlike.mono_l : ∀ k, (∀ y0 y1 y2 y3 y4 y5 y6 y7 y8 y9 y10 y11 y12 y13, LeO (hibernaclelaw10_IsaUnlike.j0 k y0 y1 y2 y3 y4 y5 y6 y7 y8 y9 y10 y11 y12 y13) (hibernaclelaw10_IsaUnlike.j0 (k + 1) y0 y1 y2 y3 y4 y5 y6 y7 y8 y9 y10 y11 y12 y13))
  | 0 => fun _ _ _ _ _ _ _ _ _ _ _ _ _ _ r h => by simp [hibernaclelaw10_IsaUnlike.j0] at h
  | k + 1 => by
    have ih0 := hibernaclelaw10_IsaUnlike.mono_l k
    · intro y0 y1 y2 y3 y4 y5 y6 y7 y8 y9 y10 y11 y12 y13
      unfold hibernaclelaw10_IsaUnlike.j0
      repeat' first
      | (with_reducible exact ih0 _ _ _ _ _ _ _ _ _ _ _ _ _ _)
      | (with_reducible exact hibernaclelaw10_alive.mono _)
      | (with_reducible exact isa_Enc.mono _ _ _ _ _ _)
      | (with_reducible exact isa_Text.mono _ _ _ _ _ _)
      | (with_reducible exact LeO.refl _)
      | (with_reducible exact LeO.none _)
      | (with_reducible refine LeO.ite ?_ ?_)
      | (with_reducible refine LeO.bind ?_ (fun _ => ?_))
      | exact ih0 _ _ _ _ _ _ _ _ _ _ _ _ _ _
      | exact hibernaclelaw10_alive.mono _
      | exact isa_Enc.mono _ _ _ _ _ _
      | exact isa_Text.mono _ _ _ _ _ _
      | exact LeO.none _
      | refine LeO.ite ?_ ?_
      | refine LeO.bind ?_ (fun _ => ?_)
theorem hibernaclelaw10_IsaUnlike.mono : ∀ a0 a1 a2 a3 a4 a5 a6 a7 a8 a9 k, LeO (hibernaclelaw10_IsaUnlike.f k a0 a1 a2 a3 a4 a5 a6 a7 a8 a9) (hibernaclelaw10_IsaUnlike.f (k + 1) a0 a1 a2 a3 a4 a5 a6 a7 a8 a9) := by
  intro a0 a1 a2 a3 a4 a5 a6 a7 a8 a9 k
  have ih0 := hibernaclelaw10_IsaUnlike.mono_l k
  unfold hibernaclelaw10_IsaUnlike.f
  repeat' first
      | (with_reducible exact ih0 _ _ _ _ _ _ _ _ _ _ _ _ _ _)
      | (with_reducible exact hibernaclelaw10_alive.mono _)
      | (with_reducible exact isa_Enc.mono _ _ _ _ _ _)
      | (with_reducible exact isa_Text.mono _ _ _ _ _ _)
      | (with_reducible exact LeO.refl _)
      | (with_reducible exact LeO.none _)
      | (with_reducible refine LeO.ite ?_ ?_)
      | (with_reducible refine LeO.bind ?_ (fun _ => ?_))
      | exact ih0 _ _ _ _ _ _ _ _ _ _ _ _ _ _
      | exact hibernaclelaw10_alive.mono _
      | exact isa_Enc.mono _ _ _ _ _ _
      | exact isa_Text.mono _ _ _ _ _ _
      | exact LeO.none _
      | refine LeO.ite ?_ ?_
      | refine LeO.bind ?_ (fun _ => ?_)
def hibernaclelaw10_IsaUnlike.T7 : Bool × List (List Nat × List Nat) := (true, [([], []), ([], []), ([0, 1], [0, 1]), ([], []), ([], []), ([3, 4], [3, 4]), ([2, 5], [2, 5]), ([6], [6]), ([7], [7]), ([8, 7, 7], [7, 8]), ([7], [7]), ([10, 9, 7], [7, 10]), ([9, 11, 7], [7, 9, 11]), ([7], [7]), ([7], [7]), ([13, 14, 7], [7, 13, 14]), ([12, 15, 7], [7, 12, 15]), ([7, 16], [7, 16]), ([17, 11, 0, 1, 2, 3, 4, 5, 6, 7, 8, 9, 10, 11, 12, 13, 14, 15, 16, 17], [17])])
def hibernaclelaw10_IsaUnlike.B7 : List Nat := [0, 0, 3, 0, 0, 24, 63, 127, 255, 511, 255, 2047, 4095, 255, 255, 24831, 65535, 131071, 262143]
theorem hibernaclelaw10_IsaUnlike.tab7 : rtab .any (opsOf Tryd.f5 7) = hibernaclelaw10_IsaUnlike.T7 := by kernel_rfl
theorem hibernaclelaw10_IsaUnlike.bits7 : waitsOk hibernaclelaw10_IsaUnlike.T7.2 hibernaclelaw10_IsaUnlike.B7 = true := by kernel_rfl
def hibernaclelaw10_IsaBits.f (k : Nat) (a0 : Int) (a1 : Int) : Option (Bool) := (hibernaclelaw10_alive.f k).bind fun t248 => (if t248 = true then ((isa_Dec.f k a0).bind fun bt249 => (if 0 ≤ (Int.tmod a1 32) then ((isa_Dec.f k (Go.bits .xor .u32 a0 (shl .u32 1 (Int.tmod a1 32)))).bind fun bt256 => (if bt249.2.2.2.2.2 = true then (if bt256.2.2.2.2.2 = true then (some (!(bt249.1 == bt256.1) || (!(bt249.2.1 == bt256.2.1) || (!(bt249.2.2.1 == bt256.2.2.1) || (!(bt249.2.2.2.1 == bt256.2.2.2.1) || (!(bt249.2.2.2.2.1 == bt256.2.2.2.2.1))))))) else (some true)) else (some true))) else (none))) else (some false))
theorem hibernaclelaw10_IsaBits.mono : ∀ a0 a1 k, LeO (hibernaclelaw10_IsaBits.f k a0 a1) (hibernaclelaw10_IsaBits.f (k + 1) a0 a1) := by
  intro a0 a1 k
  unfold hibernaclelaw10_IsaBits.f
  repeat' first
      | (with_reducible exact hibernaclelaw10_alive.mono _)
      | (with_reducible exact isa_Dec.mono _ _)
      | (with_reducible exact LeO.refl _)
      | (with_reducible exact LeO.none _)
      | (with_reducible refine LeO.ite ?_ ?_)
      | (with_reducible refine LeO.bind ?_ (fun _ => ?_))
      | exact hibernaclelaw10_alive.mono _
      | exact isa_Dec.mono _ _
      | exact LeO.none _
      | refine LeO.ite ?_ ?_
      | refine LeO.bind ?_ (fun _ => ?_)
def hibernacleref10_names.f  : Option (List ByteArray) := some (([(⟨#[97, 100, 100]⟩ : ByteArray), (⟨#[115, 117, 98]⟩ : ByteArray), (⟨#[109, 117, 108]⟩ : ByteArray), (⟨#[100, 105, 118]⟩ : ByteArray), (⟨#[114, 101, 109]⟩ : ByteArray), (⟨#[97, 110, 100]⟩ : ByteArray), (⟨#[111, 114]⟩ : ByteArray), (⟨#[120, 111, 114]⟩ : ByteArray), (⟨#[115, 104, 108]⟩ : ByteArray), (⟨#[115, 104, 114]⟩ : ByteArray), (⟨#[115, 97, 114]⟩ : ByteArray), (⟨#[115, 108, 116]⟩ : ByteArray), (⟨#[115, 108, 116, 117]⟩ : ByteArray), (⟨#[97, 100, 100, 105]⟩ : ByteArray), (⟨#[97, 110, 100, 105]⟩ : ByteArray), (⟨#[111, 114, 105]⟩ : ByteArray), (⟨#[120, 111, 114, 105]⟩ : ByteArray), (⟨#[115, 108, 116, 105]⟩ : ByteArray), (⟨#[108, 117, 105]⟩ : ByteArray), (⟨#[108, 119]⟩ : ByteArray), (⟨#[108, 98]⟩ : ByteArray), (⟨#[108, 98, 117]⟩ : ByteArray), (⟨#[115, 119]⟩ : ByteArray), (⟨#[115, 98]⟩ : ByteArray), (⟨#[98, 101, 113]⟩ : ByteArray), (⟨#[98, 110, 101]⟩ : ByteArray), (⟨#[98, 108, 116]⟩ : ByteArray), (⟨#[98, 108, 116, 117]⟩ : ByteArray), (⟨#[106, 97, 108]⟩ : ByteArray), (⟨#[106, 97, 108, 114]⟩ : ByteArray), (⟨#[115, 121, 115]⟩ : ByteArray)] : List ByteArray))
set_option maxHeartbeats 8000000 in
set_option maxRecDepth 100000 in
theorem hibernacleref10_names.calls  (r : List ByteArray) (w : World) (h : hibernacleref10_names.f  = some r) :
    Calls Tryd.prog 29 #[] w fun e w' => ∃ v0_ : Value, e = .returned (v0_) ∧ Kd.R Kd.string 9 w' w.heap.size (fun _ => True) v0_ r ∧ Below w.heap.size w w' := by
  have HB := Aside0.mk (Below.refl w.heap.size w)
  have H : (some (([(⟨#[97, 100, 100]⟩ : ByteArray), (⟨#[115, 117, 98]⟩ : ByteArray), (⟨#[109, 117, 108]⟩ : ByteArray), (⟨#[100, 105, 118]⟩ : ByteArray), (⟨#[114, 101, 109]⟩ : ByteArray), (⟨#[97, 110, 100]⟩ : ByteArray), (⟨#[111, 114]⟩ : ByteArray), (⟨#[120, 111, 114]⟩ : ByteArray), (⟨#[115, 104, 108]⟩ : ByteArray), (⟨#[115, 104, 114]⟩ : ByteArray), (⟨#[115, 97, 114]⟩ : ByteArray), (⟨#[115, 108, 116]⟩ : ByteArray), (⟨#[115, 108, 116, 117]⟩ : ByteArray), (⟨#[97, 100, 100, 105]⟩ : ByteArray), (⟨#[97, 110, 100, 105]⟩ : ByteArray), (⟨#[111, 114, 105]⟩ : ByteArray), (⟨#[120, 111, 114, 105]⟩ : ByteArray), (⟨#[115, 108, 116, 105]⟩ : ByteArray), (⟨#[108, 117, 105]⟩ : ByteArray), (⟨#[108, 119]⟩ : ByteArray), (⟨#[108, 98]⟩ : ByteArray), (⟨#[108, 98, 117]⟩ : ByteArray), (⟨#[115, 119]⟩ : ByteArray), (⟨#[115, 98]⟩ : ByteArray), (⟨#[98, 101, 113]⟩ : ByteArray), (⟨#[98, 110, 101]⟩ : ByteArray), (⟨#[98, 108, 116]⟩ : ByteArray), (⟨#[98, 108, 116, 117]⟩ : ByteArray), (⟨#[106, 97, 108]⟩ : ByteArray), (⟨#[106, 97, 108, 114]⟩ : ByteArray), (⟨#[115, 121, 115]⟩ : ByteArray)] : List ByteArray))) = some r := h
  clear h
  obtain ⟨y279, hy279⟩ : ∃ y_ : List ByteArray, y_ = (([(⟨#[97, 100, 100]⟩ : ByteArray), (⟨#[115, 117, 98]⟩ : ByteArray), (⟨#[109, 117, 108]⟩ : ByteArray), (⟨#[100, 105, 118]⟩ : ByteArray), (⟨#[114, 101, 109]⟩ : ByteArray), (⟨#[97, 110, 100]⟩ : ByteArray), (⟨#[111, 114]⟩ : ByteArray), (⟨#[120, 111, 114]⟩ : ByteArray), (⟨#[115, 104, 108]⟩ : ByteArray), (⟨#[115, 104, 114]⟩ : ByteArray), (⟨#[115, 97, 114]⟩ : ByteArray), (⟨#[115, 108, 116]⟩ : ByteArray), (⟨#[115, 108, 116, 117]⟩ : ByteArray), (⟨#[97, 100, 100, 105]⟩ : ByteArray), (⟨#[97, 110, 100, 105]⟩ : ByteArray), (⟨#[111, 114, 105]⟩ : ByteArray), (⟨#[120, 111, 114, 105]⟩ : ByteArray), (⟨#[115, 108, 116, 105]⟩ : ByteArray), (⟨#[108, 117, 105]⟩ : ByteArray), (⟨#[108, 119]⟩ : ByteArray), (⟨#[108, 98]⟩ : ByteArray), (⟨#[108, 98, 117]⟩ : ByteArray), (⟨#[115, 119]⟩ : ByteArray), (⟨#[115, 98]⟩ : ByteArray), (⟨#[98, 101, 113]⟩ : ByteArray), (⟨#[98, 110, 101]⟩ : ByteArray), (⟨#[98, 108, 116]⟩ : ByteArray), (⟨#[98, 108, 116, 117]⟩ : ByteArray), (⟨#[106, 97, 108]⟩ : ByteArray), (⟨#[106, 97, 108, 114]⟩ : ByteArray), (⟨#[115, 121, 115]⟩ : ByteArray)] : List ByteArray)) := ⟨_, rfl⟩
  replace H : (some y279) = some r := by first | (rw [hy279]; with_reducible exact H) | (have H2_ := (Option.bind_some _ _).symm.trans H; rw [hy279]; with_reducible exact H2_) | (have H2_ := (Option.bind_some _ _).symm.trans H; with_reducible exact H2_) | with_reducible exact H | (rw [hy279]; exact H) | exact H
  have Ny279 := Aside0.mk hy279
  clear hy279
  obtain rfl := Option.some.inj H
  go_enter Tryd.func29, Tryd.ntmps29
  go_wp2_with (first | ((with_reducible refine gate_dst (N := 1) rfl ?_); refine Kd.R_lit Kd.string _ 9 ?hg (N := 1) ?hd (xs := ([(⟨#[97, 100, 100]⟩ : ByteArray), (⟨#[115, 117, 98]⟩ : ByteArray), (⟨#[109, 117, 108]⟩ : ByteArray), (⟨#[100, 105, 118]⟩ : ByteArray), (⟨#[114, 101, 109]⟩ : ByteArray), (⟨#[97, 110, 100]⟩ : ByteArray), (⟨#[111, 114]⟩ : ByteArray), (⟨#[120, 111, 114]⟩ : ByteArray), (⟨#[115, 104, 108]⟩ : ByteArray), (⟨#[115, 104, 114]⟩ : ByteArray), (⟨#[115, 97, 114]⟩ : ByteArray), (⟨#[115, 108, 116]⟩ : ByteArray), (⟨#[115, 108, 116, 117]⟩ : ByteArray), (⟨#[97, 100, 100, 105]⟩ : ByteArray), (⟨#[97, 110, 100, 105]⟩ : ByteArray), (⟨#[111, 114, 105]⟩ : ByteArray), (⟨#[120, 111, 114, 105]⟩ : ByteArray), (⟨#[115, 108, 116, 105]⟩ : ByteArray), (⟨#[108, 117, 105]⟩ : ByteArray), (⟨#[108, 119]⟩ : ByteArray), (⟨#[108, 98]⟩ : ByteArray), (⟨#[108, 98, 117]⟩ : ByteArray), (⟨#[115, 119]⟩ : ByteArray), (⟨#[115, 98]⟩ : ByteArray), (⟨#[98, 101, 113]⟩ : ByteArray), (⟨#[98, 110, 101]⟩ : ByteArray), (⟨#[98, 108, 116]⟩ : ByteArray), (⟨#[98, 108, 116, 117]⟩ : ByteArray), (⟨#[106, 97, 108]⟩ : ByteArray), (⟨#[106, 97, 108, 114]⟩ : ByteArray), (⟨#[115, 121, 115]⟩ : ByteArray)] : List ByteArray)) (inner := [.string (⟨#[97, 100, 100]⟩ : ByteArray), .string (⟨#[115, 117, 98]⟩ : ByteArray), .string (⟨#[109, 117, 108]⟩ : ByteArray), .string (⟨#[100, 105, 118]⟩ : ByteArray), .string (⟨#[114, 101, 109]⟩ : ByteArray), .string (⟨#[97, 110, 100]⟩ : ByteArray), .string (⟨#[111, 114]⟩ : ByteArray), .string (⟨#[120, 111, 114]⟩ : ByteArray), .string (⟨#[115, 104, 108]⟩ : ByteArray), .string (⟨#[115, 104, 114]⟩ : ByteArray), .string (⟨#[115, 97, 114]⟩ : ByteArray), .string (⟨#[115, 108, 116]⟩ : ByteArray), .string (⟨#[115, 108, 116, 117]⟩ : ByteArray), .string (⟨#[97, 100, 100, 105]⟩ : ByteArray), .string (⟨#[97, 110, 100, 105]⟩ : ByteArray), .string (⟨#[111, 114, 105]⟩ : ByteArray), .string (⟨#[120, 111, 114, 105]⟩ : ByteArray), .string (⟨#[115, 108, 116, 105]⟩ : ByteArray), .string (⟨#[108, 117, 105]⟩ : ByteArray), .string (⟨#[108, 119]⟩ : ByteArray), .string (⟨#[108, 98]⟩ : ByteArray), .string (⟨#[108, 98, 117]⟩ : ByteArray), .string (⟨#[115, 119]⟩ : ByteArray), .string (⟨#[115, 98]⟩ : ByteArray), .string (⟨#[98, 101, 113]⟩ : ByteArray), .string (⟨#[98, 110, 101]⟩ : ByteArray), .string (⟨#[98, 108, 116]⟩ : ByteArray), .string (⟨#[98, 108, 116, 117]⟩ : ByteArray), .string (⟨#[106, 97, 108]⟩ : ByteArray), .string (⟨#[106, 97, 108, 114]⟩ : ByteArray), .string (⟨#[115, 121, 115]⟩ : ByteArray)]) (ok := fun _ => True) (okp := fun _ => True) ?hr ?hp (fun _ hk => hk) trivial (Below.refl _ _) (Nat.le_refl _) (by simp) ?_; (case hd => rfl); (case hg => rfl); (case hr => first | (go_simp; done) | (go_simp; rfl)); (case hp => exact (Reps.one (show Kd.M Kd.string _ _ _ (⟨#[97, 100, 100]⟩ : ByteArray) [.string (⟨#[97, 100, 100]⟩ : ByteArray)] from rfl) (Reps.one (show Kd.M Kd.string _ _ _ (⟨#[115, 117, 98]⟩ : ByteArray) [.string (⟨#[115, 117, 98]⟩ : ByteArray)] from rfl) (Reps.one (show Kd.M Kd.string _ _ _ (⟨#[109, 117, 108]⟩ : ByteArray) [.string (⟨#[109, 117, 108]⟩ : ByteArray)] from rfl) (Reps.one (show Kd.M Kd.string _ _ _ (⟨#[100, 105, 118]⟩ : ByteArray) [.string (⟨#[100, 105, 118]⟩ : ByteArray)] from rfl) (Reps.one (show Kd.M Kd.string _ _ _ (⟨#[114, 101, 109]⟩ : ByteArray) [.string (⟨#[114, 101, 109]⟩ : ByteArray)] from rfl) (Reps.one (show Kd.M Kd.string _ _ _ (⟨#[97, 110, 100]⟩ : ByteArray) [.string (⟨#[97, 110, 100]⟩ : ByteArray)] from rfl) (Reps.one (show Kd.M Kd.string _ _ _ (⟨#[111, 114]⟩ : ByteArray) [.string (⟨#[111, 114]⟩ : ByteArray)] from rfl) (Reps.one (show Kd.M Kd.string _ _ _ (⟨#[120, 111, 114]⟩ : ByteArray) [.string (⟨#[120, 111, 114]⟩ : ByteArray)] from rfl) (Reps.one (show Kd.M Kd.string _ _ _ (⟨#[115, 104, 108]⟩ : ByteArray) [.string (⟨#[115, 104, 108]⟩ : ByteArray)] from rfl) (Reps.one (show Kd.M Kd.string _ _ _ (⟨#[115, 104, 114]⟩ : ByteArray) [.string (⟨#[115, 104, 114]⟩ : ByteArray)] from rfl) (Reps.one (show Kd.M Kd.string _ _ _ (⟨#[115, 97, 114]⟩ : ByteArray) [.string (⟨#[115, 97, 114]⟩ : ByteArray)] from rfl) (Reps.one (show Kd.M Kd.string _ _ _ (⟨#[115, 108, 116]⟩ : ByteArray) [.string (⟨#[115, 108, 116]⟩ : ByteArray)] from rfl) (Reps.one (show Kd.M Kd.string _ _ _ (⟨#[115, 108, 116, 117]⟩ : ByteArray) [.string (⟨#[115, 108, 116, 117]⟩ : ByteArray)] from rfl) (Reps.one (show Kd.M Kd.string _ _ _ (⟨#[97, 100, 100, 105]⟩ : ByteArray) [.string (⟨#[97, 100, 100, 105]⟩ : ByteArray)] from rfl) (Reps.one (show Kd.M Kd.string _ _ _ (⟨#[97, 110, 100, 105]⟩ : ByteArray) [.string (⟨#[97, 110, 100, 105]⟩ : ByteArray)] from rfl) (Reps.one (show Kd.M Kd.string _ _ _ (⟨#[111, 114, 105]⟩ : ByteArray) [.string (⟨#[111, 114, 105]⟩ : ByteArray)] from rfl) (Reps.one (show Kd.M Kd.string _ _ _ (⟨#[120, 111, 114, 105]⟩ : ByteArray) [.string (⟨#[120, 111, 114, 105]⟩ : ByteArray)] from rfl) (Reps.one (show Kd.M Kd.string _ _ _ (⟨#[115, 108, 116, 105]⟩ : ByteArray) [.string (⟨#[115, 108, 116, 105]⟩ : ByteArray)] from rfl) (Reps.one (show Kd.M Kd.string _ _ _ (⟨#[108, 117, 105]⟩ : ByteArray) [.string (⟨#[108, 117, 105]⟩ : ByteArray)] from rfl) (Reps.one (show Kd.M Kd.string _ _ _ (⟨#[108, 119]⟩ : ByteArray) [.string (⟨#[108, 119]⟩ : ByteArray)] from rfl) (Reps.one (show Kd.M Kd.string _ _ _ (⟨#[108, 98]⟩ : ByteArray) [.string (⟨#[108, 98]⟩ : ByteArray)] from rfl) (Reps.one (show Kd.M Kd.string _ _ _ (⟨#[108, 98, 117]⟩ : ByteArray) [.string (⟨#[108, 98, 117]⟩ : ByteArray)] from rfl) (Reps.one (show Kd.M Kd.string _ _ _ (⟨#[115, 119]⟩ : ByteArray) [.string (⟨#[115, 119]⟩ : ByteArray)] from rfl) (Reps.one (show Kd.M Kd.string _ _ _ (⟨#[115, 98]⟩ : ByteArray) [.string (⟨#[115, 98]⟩ : ByteArray)] from rfl) (Reps.one (show Kd.M Kd.string _ _ _ (⟨#[98, 101, 113]⟩ : ByteArray) [.string (⟨#[98, 101, 113]⟩ : ByteArray)] from rfl) (Reps.one (show Kd.M Kd.string _ _ _ (⟨#[98, 110, 101]⟩ : ByteArray) [.string (⟨#[98, 110, 101]⟩ : ByteArray)] from rfl) (Reps.one (show Kd.M Kd.string _ _ _ (⟨#[98, 108, 116]⟩ : ByteArray) [.string (⟨#[98, 108, 116]⟩ : ByteArray)] from rfl) (Reps.one (show Kd.M Kd.string _ _ _ (⟨#[98, 108, 116, 117]⟩ : ByteArray) [.string (⟨#[98, 108, 116, 117]⟩ : ByteArray)] from rfl) (Reps.one (show Kd.M Kd.string _ _ _ (⟨#[106, 97, 108]⟩ : ByteArray) [.string (⟨#[106, 97, 108]⟩ : ByteArray)] from rfl) (Reps.one (show Kd.M Kd.string _ _ _ (⟨#[106, 97, 108, 114]⟩ : ByteArray) [.string (⟨#[106, 97, 108, 114]⟩ : ByteArray)] from rfl) (Reps.one (show Kd.M Kd.string _ _ _ (⟨#[115, 121, 115]⟩ : ByteArray) [.string (⟨#[115, 121, 115]⟩ : ByteArray)] from rfl) (Reps.none _ _))))))))))))))))))))))))))))))))); intro v280 w1 ho2 hb hg_ hnew_; clear hg_ hnew_; (first | rw [← Ny279.out] at ho2 | (simp only [Int.reduceToNat] at ho2; rw [← Ny279.out] at ho2)); have n0_ := Aside0.mk (Kd.R_lower ho2 (below_size (by repeat (first | (with_reducible first | exact HB.out | apply below_alloc | apply pw_below_drewN | apply below_drew1) | exact HB.out)))); have n1_ := Aside0.mk (below_step (by repeat (first | (with_reducible first | exact HB.out | apply below_alloc | apply pw_below_drewN | apply below_drew1) | exact HB.out)) hb); clear HB; have HO281 := n0_; have HB := n1_; clear n0_ n1_; clear hb ho2))
  go_ret
  exact ⟨_, by first | rfl | (simp [errW_none, errW_some] <;> rfl) | (simp [*, errW_none, errW_some] <;> rfl), by (with_reducible repeat (first | apply Kd.R_alloc | apply Kd.R_drewN | apply Kd.R_drew)); exact HO281.out, by repeat (first | (with_reducible first | exact HB.out | apply below_alloc | apply pw_below_drewN | apply below_drew1) | exact HB.out)⟩
def hibernacleref10_dec.f : Nat → Int → Option (ByteArray)
  | 0, _ => none
  | k + 1, a0 => if a0 < 0 then ((hibernacleref10_dec.f k (wrap32 (-a0))).bind fun t282 => (if 1 + t282.size ≤ 9223372036854775807 then (some ((⟨#[45]⟩ : ByteArray) ++ t282)) else (none))) else (if a0 < 10 then (if 0 ≤ a0 then (if a0 ≤ (wrap32 (a0 + 1)) then (if (wrap32 (a0 + 1)) ≤ 10 then (some ((⟨#[48, 49, 50, 51, 52, 53, 54, 55, 56, 57]⟩ : ByteArray).extract (a0 : Int).toNat ((wrap32 (a0 + 1)) : Int).toNat)) else (none)) else (none)) else (none)) else ((hibernacleref10_dec.f k (wrap32 (Int.tdiv a0 10))).bind fun t283 => ((hibernacleref10_dec.f k (Int.tmod a0 10)).bind fun t284 => (if t283.size + t284.size ≤ 9223372036854775807 then (some (t283 ++ t284)) else (none)))))
theorem hibernacleref10_dec.mono_l : ∀ k, (∀ y0, LeO (hibernacleref10_dec.f k y0) (hibernacleref10_dec.f (k + 1) y0))
  | 0 => fun _ r h => by simp [hibernacleref10_dec.f] at h
  | k + 1 => by
    have ih0 := hibernacleref10_dec.mono_l k
    · intro y0
      unfold hibernacleref10_dec.f
      repeat' first
      | (with_reducible exact ih0 _)
      | (with_reducible exact LeO.refl _)
      | (with_reducible exact LeO.none _)
      | (with_reducible refine LeO.ite ?_ ?_)
      | (with_reducible refine LeO.bind ?_ (fun _ => ?_))
      | exact ih0 _
      | exact LeO.none _
      | refine LeO.ite ?_ ?_
      | refine LeO.bind ?_ (fun _ => ?_)
theorem hibernacleref10_dec.mono : ∀ a0 k, LeO (hibernacleref10_dec.f k a0) (hibernacleref10_dec.f (k + 1) a0) := by
  intro a0 k
  have ih0 := hibernacleref10_dec.mono_l k
  exact ih0 a0
set_option maxHeartbeats 8000000 in
set_option maxRecDepth 100000 in
theorem hibernacleref10_dec.calls (k : Nat) : ∀ (a0 : Int) (r : ByteArray) (w : World) (h : hibernacleref10_dec.f k a0 = some r),
    Calls Tryd.prog 31 #[.int .i32 a0] w fun e w' => e = .returned (.string r) ∧ Drawn0 w w' := by
  induction k using Nat.strongRecOn with
  | _ k ih =>
  intro a0 r w h
  cases k with
  | zero => exact absurd h (by simp [hibernacleref10_dec.f])
  | succ k =>
  simp only [hibernacleref10_dec.f] at h
  have H : (if a0 < 0 then ((hibernacleref10_dec.f k (wrap32 (-a0))).bind fun t282 => (if 1 + t282.size ≤ 9223372036854775807 then (some ((⟨#[45]⟩ : ByteArray) ++ t282)) else (none))) else (if a0 < 10 then (if 0 ≤ a0 then (if a0 ≤ (wrap32 (a0 + 1)) then (if (wrap32 (a0 + 1)) ≤ 10 then (some ((⟨#[48, 49, 50, 51, 52, 53, 54, 55, 56, 57]⟩ : ByteArray).extract (a0 : Int).toNat ((wrap32 (a0 + 1)) : Int).toNat)) else (none)) else (none)) else (none)) else ((hibernacleref10_dec.f k (wrap32 (Int.tdiv a0 10))).bind fun t283 => ((hibernacleref10_dec.f k (Int.tmod a0 10)).bind fun t284 => (if t283.size + t284.size ≤ 9223372036854775807 then (some (t283 ++ t284)) else (none)))))) = some r := h
  clear h
  by_cases c2 : a0 < 0
  · rw [if_pos c2] at H
    have c2b0 : decide (a0 < 0) = true := decide_eq_true c2
    clear c2
    replace H := Option.bind_eq_some_iff.mp H
    obtain ⟨t282, A30, H⟩ := H
    replace H : (if 1 + t282.size ≤ 9223372036854775807 then (some ((⟨#[45]⟩ : ByteArray) ++ t282)) else (none)) = some r := H
    have A3 := Aside0.mk A30
    clear A30
    by_cases c4 : 1 + t282.size ≤ 9223372036854775807
    · rw [if_pos c4] at H
      have c4b0 := eq_true c4
      have c4b1 : decide (1 + t282.size ≤ 9223372036854775807) = true := decide_eq_true c4
      try have c4b2 : (9223372036854775807 < 1 + t282.size) = False := eq_false (Nat.not_lt.2 c4)
      obtain rfl := Option.some.inj H
      go_enter Tryd.func31, Tryd.ntmps31
      go_wp2_with (first | ((with_reducible refine gate_callee (f := 31) rfl ?_); refine goesL_ (some 7) rfl rfl Tryd.func31 (by kernel_rfl) rfl #[.int .i32 (wrap32 (-a0))] rfl (by (try simp only [List.map_toArray, List.map_cons, List.map_nil]); first | done | rfl | (simp only [List.length_drop, List.length_take]; rfl)) ?_; (with_reducible refine (ih k (by omega) (wrap32 (-a0)) t282 _ A3.out).mono ?_); rintro e w' ⟨rfl, ⟨nd, rfl⟩⟩; refine ⟨_, rfl, ?_⟩))
      go_ret
      exact ⟨by first | rfl | (simp; done) | (simp [*]; done), by repeat (first | exact Drawn0.refl _ | apply Drawn0.step)⟩
    · rw [if_neg c4] at H
      exact absurd H (by simp)
  · rw [if_neg c2] at H
    have c2b0 : decide (a0 < 0) = false := decide_eq_false c2
    clear c2
    by_cases c5 : a0 < 10
    · rw [if_pos c5] at H
      have c5b0 : decide (a0 < 10) = true := decide_eq_true c5
      clear c5
      by_cases c6 : 0 ≤ a0
      · rw [if_pos c6] at H
        have c6b0 := eq_true c6
        have c6b1 : decide (0 ≤ a0) = true := decide_eq_true c6
        clear c6
        by_cases c7 : a0 ≤ (wrap32 (a0 + 1))
        · rw [if_pos c7] at H
          have c7b0 := eq_true c7
          have c7b1 : decide (a0 ≤ (wrap32 (a0 + 1))) = true := decide_eq_true c7
          by_cases c8 : (wrap32 (a0 + 1)) ≤ 10
          · rw [if_pos c8] at H
            have c8b0 := eq_true c8
            have c8b1 : decide ((wrap32 (a0 + 1)) ≤ 10) = true := decide_eq_true c8
            obtain rfl := Option.some.inj H
            go_enter Tryd.func31, Tryd.ntmps31
            go_wp2
            go_ret
            exact ⟨by first | rfl | (simp; done) | (simp [*]; done), by repeat (first | exact Drawn0.refl _ | apply Drawn0.step)⟩
          · rw [if_neg c8] at H
            exact absurd H (by simp)
        · rw [if_neg c7] at H
          exact absurd H (by simp)
      · rw [if_neg c6] at H
        exact absurd H (by simp)
    · rw [if_neg c5] at H
      have c5b0 : decide (a0 < 10) = false := decide_eq_false c5
      clear c5
      replace H := Option.bind_eq_some_iff.mp H
      obtain ⟨t283, A90, H⟩ := H
      replace H : ((hibernacleref10_dec.f k (Int.tmod a0 10)).bind fun t284 => (if t283.size + t284.size ≤ 9223372036854775807 then (some (t283 ++ t284)) else (none))) = some r := H
      have A9 := Aside0.mk A90
      clear A90
      replace H := Option.bind_eq_some_iff.mp H
      obtain ⟨t284, A100, H⟩ := H
      replace H : (if t283.size + t284.size ≤ 9223372036854775807 then (some (t283 ++ t284)) else (none)) = some r := H
      have A10 := Aside0.mk A100
      clear A100
      by_cases c11 : t283.size + t284.size ≤ 9223372036854775807
      · rw [if_pos c11] at H
        have c11b0 := eq_true c11
        have c11b1 : decide (t283.size + t284.size ≤ 9223372036854775807) = true := decide_eq_true c11
        try have c11b2 : (9223372036854775807 < t283.size + t284.size) = False := eq_false (Nat.not_lt.2 c11)
        obtain rfl := Option.some.inj H
        go_enter Tryd.func31, Tryd.ntmps31
        go_wp2_with (first | ((with_reducible refine gate_callee (f := 31) rfl ?_); refine goesL_ (some 17) rfl rfl Tryd.func31 (by kernel_rfl) rfl #[.int .i32 (wrap32 (Int.tdiv a0 10))] rfl (by (try simp only [List.map_toArray, List.map_cons, List.map_nil]); first | done | rfl | (simp only [List.length_drop, List.length_take]; rfl)) ?_; (with_reducible refine (ih k (by omega) (wrap32 (Int.tdiv a0 10)) t283 _ A9.out).mono ?_); rintro e w' ⟨rfl, ⟨nd, rfl⟩⟩; refine ⟨_, rfl, ?_⟩) | ((with_reducible refine gate_callee (f := 31) rfl ?_); refine goesL_ (some 20) rfl rfl Tryd.func31 (by kernel_rfl) rfl #[.int .i32 (Int.tmod a0 10)] rfl (by (try simp only [List.map_toArray, List.map_cons, List.map_nil]); first | done | rfl | (simp only [List.length_drop, List.length_take]; rfl)) ?_; (with_reducible refine (ih k (by omega) (Int.tmod a0 10) t284 _ A10.out).mono ?_); rintro e w' ⟨rfl, ⟨nd, rfl⟩⟩; refine ⟨_, rfl, ?_⟩))
        go_ret
        exact ⟨by first | rfl | (simp; done) | (simp [*]; done), by repeat (first | exact Drawn0.refl _ | apply Drawn0.step)⟩
      · rw [if_neg c11] at H
        exact absurd H (by simp)
def hibernacleref10_reg.f (k : Nat) (a0 : Int) : Option (ByteArray) := (hibernacleref10_dec.f k (wrap32 (a0))).bind fun t285 => (if 1 + t285.size ≤ 9223372036854775807 then (some ((⟨#[114]⟩ : ByteArray) ++ t285)) else (none))
theorem hibernacleref10_reg.mono : ∀ a0 k, LeO (hibernacleref10_reg.f k a0) (hibernacleref10_reg.f (k + 1) a0) := by
  intro a0 k
  unfold hibernacleref10_reg.f
  repeat' first
      | (with_reducible exact hibernacleref10_dec.mono _ _)
      | (with_reducible exact LeO.refl _)
      | (with_reducible exact LeO.none _)
      | (with_reducible refine LeO.ite ?_ ?_)
      | (with_reducible refine LeO.bind ?_ (fun _ => ?_))
      | exact hibernacleref10_dec.mono _ _
      | exact LeO.none _
      | refine LeO.ite ?_ ?_
      | refine LeO.bind ?_ (fun _ => ?_)
set_option maxHeartbeats 8000000 in
set_option maxRecDepth 100000 in
theorem hibernacleref10_reg.calls (k : Nat) (a0 : Int) (r : ByteArray) (w : World) (h : hibernacleref10_reg.f k a0 = some r) :
    Calls Tryd.prog 30 #[.int .u8 a0] w fun e w' => e = .returned (.string r) ∧ Drawn0 w w' := by
  have H : ((hibernacleref10_dec.f k (wrap32 (a0))).bind fun t285 => (if 1 + t285.size ≤ 9223372036854775807 then (some ((⟨#[114]⟩ : ByteArray) ++ t285)) else (none))) = some r := h
  clear h
  replace H := Option.bind_eq_some_iff.mp H
  obtain ⟨t285, A20, H⟩ := H
  replace H : (if 1 + t285.size ≤ 9223372036854775807 then (some ((⟨#[114]⟩ : ByteArray) ++ t285)) else (none)) = some r := H
  have A2 := Aside0.mk A20
  clear A20
  by_cases c3 : 1 + t285.size ≤ 9223372036854775807
  · rw [if_pos c3] at H
    have c3b0 := eq_true c3
    have c3b1 : decide (1 + t285.size ≤ 9223372036854775807) = true := decide_eq_true c3
    try have c3b2 : (9223372036854775807 < 1 + t285.size) = False := eq_false (Nat.not_lt.2 c3)
    obtain rfl := Option.some.inj H
    go_enter Tryd.func30, Tryd.ntmps30
    go_wp2_with (first | ((with_reducible refine gate_callee (f := 31) rfl ?_); refine goesL_ (some 5) rfl rfl Tryd.func31 (by kernel_rfl) rfl #[.int .i32 (wrap32 (a0))] rfl (by (try simp only [List.map_toArray, List.map_cons, List.map_nil]); first | done | rfl | (simp only [List.length_drop, List.length_take]; rfl)) ?_; (with_reducible refine (hibernacleref10_dec.calls k (wrap32 (a0)) t285 _ A2.out).mono ?_); rintro e w' ⟨rfl, ⟨nd, rfl⟩⟩; refine ⟨_, rfl, ?_⟩))
    go_ret
    exact ⟨by first | rfl | (simp; done) | (simp [*]; done), by repeat (first | exact Drawn0.refl _ | apply Drawn0.step)⟩
  · rw [if_neg c3] at H
    exact absurd H (by simp)
end Go.Proofs.YthdfkbkenklcaaaDoor.P
end
