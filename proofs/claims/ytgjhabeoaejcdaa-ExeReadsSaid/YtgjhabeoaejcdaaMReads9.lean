-- Printed for this claim and put together by wip/tools/prune.py.
import Derived.Laws.Strings
import Derived.Test.YtgjhabeoaejcdaaMReads2
import Derived.Test.YtgjhabeoaejcdaaMReads4
import Derived.Test.YtgjhabeoaejcdaaMReads5
import Derived.Test.YtgjhabeoaejcdaaMReads6
import Derived.Test.YtgjhabeoaejcdaaMReads7
import Derived.Test.YtgjhabeoaejcdaaMReads8
set_option linter.unusedVariables false
set_option linter.unusedSimpArgs false
section
namespace Go.Proofs.Ytgjhabeoaejcdaa.P
open Go.RowKit Go.Proofs.YtgjhabeoaejcdaaW.PrintWords Go.Proofs.YtgjhabeoaejcdaaW.PrintLast Go.Proofs.YtgjhabeoaejcdaaW.PrintMore
attribute [local go_sem] max2_int min2_int max_two min_two max_three min_three max_four min_four
set_option linter.unusedVariables false
set_option linter.unusedSimpArgs false
def hibernaclelaw12_ExeReads.j0 : Nat → ByteArray → Int → Bool → List Int → ByteArray → Int → Int → Option (Bool)
  | 0, _, _, _, _, _, _, _ => none
  | k + 1, x0, x6, x31, x284000, x284001, x284002, x284003 => if x31 = true then (some false) else (if x6 = 0 then ((exe_Bytes.f x284000 x284001 x284002 x284003).bind fun bt293 => (if bt293.2 = 0 then (if bt293.1.toList = x0.toList then ((hibernaclelaw12_awake.f k).bind fun t295 => (some t295)) else (some false)) else (some false))) else ((hibernaclelaw12_awake.f k).bind fun t296 => (some t296)))
def hibernaclelaw12_ExeReads.f (k : Nat) (a0 : ByteArray) : Option (Bool) := if (a0.size : Int) > 2500 then ((hibernaclelaw12_awake.f k).bind fun t275 => (some t275)) else ((exe_Of.f k a0).bind fun bt276 => ((hibernacleref12_Of.f k a0).bind fun bt284 => (if bt276.2.2.2.2 = bt284.2.2.2.2 then ((hibernacleref12_Same.f k bt276.1 bt276.2.1 bt276.2.2.1 bt276.2.2.2.1 bt284.1 bt284.2.1 bt284.2.2.1 bt284.2.2.2.1).bind fun t292 => (hibernaclelaw12_ExeReads.j0 k a0 bt284.2.2.2.2 (!t292) bt276.1 bt276.2.1 bt276.2.2.1 bt276.2.2.2.1)) else (hibernaclelaw12_ExeReads.j0 k a0 bt284.2.2.2.2 true bt276.1 bt276.2.1 bt276.2.2.1 bt276.2.2.2.1))))
theorem hibernaclelaw12_ExeReads.mono_l : ∀ k, (∀ y0 y1 y2 y3 y4 y5 y6, LeO (hibernaclelaw12_ExeReads.j0 k y0 y1 y2 y3 y4 y5 y6) (hibernaclelaw12_ExeReads.j0 (k + 1) y0 y1 y2 y3 y4 y5 y6))
  | 0 => fun _ _ _ _ _ _ _ r h => by simp [hibernaclelaw12_ExeReads.j0] at h
  | k + 1 => by
    have ih0 := hibernaclelaw12_ExeReads.mono_l k
    · intro y0 y1 y2 y3 y4 y5 y6
      unfold hibernaclelaw12_ExeReads.j0
      repeat' first
      | (with_reducible exact ih0 _ _ _ _ _ _ _)
      | (with_reducible exact exe_Of.mono _ _)
      | (with_reducible exact hibernaclelaw12_awake.mono _)
      | (with_reducible exact hibernacleref12_Of.mono _ _)
      | (with_reducible exact hibernacleref12_Same.mono _ _ _ _ _ _ _ _ _)
      | (with_reducible exact LeO.refl _)
      | (with_reducible exact LeO.none _)
      | (with_reducible refine LeO.ite ?_ ?_)
      | (with_reducible refine LeO.bind ?_ (fun _ => ?_))
      | exact ih0 _ _ _ _ _ _ _
      | exact exe_Of.mono _ _
      | exact hibernaclelaw12_awake.mono _
      | exact hibernacleref12_Of.mono _ _
      | exact hibernacleref12_Same.mono _ _ _ _ _ _ _ _ _
      | exact LeO.none _
      | refine LeO.ite ?_ ?_
      | refine LeO.bind ?_ (fun _ => ?_)
theorem hibernaclelaw12_ExeReads.mono : ∀ a0 k, LeO (hibernaclelaw12_ExeReads.f k a0) (hibernaclelaw12_ExeReads.f (k + 1) a0) := by
  intro a0 k
  have ih0 := hibernaclelaw12_ExeReads.mono_l k
  unfold hibernaclelaw12_ExeReads.f
  repeat' first
      | (with_reducible exact ih0 _ _ _ _ _ _ _)
      | (with_reducible exact exe_Of.mono _ _)
      | (with_reducible exact hibernaclelaw12_awake.mono _)
      | (with_reducible exact hibernacleref12_Of.mono _ _)
      | (with_reducible exact hibernacleref12_Same.mono _ _ _ _ _ _ _ _ _)
      | (with_reducible exact LeO.refl _)
      | (with_reducible exact LeO.none _)
      | (with_reducible refine LeO.ite ?_ ?_)
      | (with_reducible refine LeO.bind ?_ (fun _ => ?_))
      | exact ih0 _ _ _ _ _ _ _
      | exact exe_Of.mono _ _
      | exact hibernaclelaw12_awake.mono _
      | exact hibernacleref12_Of.mono _ _
      | exact hibernacleref12_Same.mono _ _ _ _ _ _ _ _ _
      | exact LeO.none _
      | refine LeO.ite ?_ ?_
      | refine LeO.bind ?_ (fun _ => ?_)
set_option maxHeartbeats 8000000 in
set_option maxRecDepth 100000 in
theorem hibernaclelaw12_ExeReads.calls (k : Nat) (a0 : ByteArray) (r : Bool) (w : World) (h : hibernaclelaw12_ExeReads.f k a0 = some r) :
    Calls Try.prog 6 #[.string a0] w fun e w' => e = .returned (.bool r) ∧ Below w.heap.size w w' := by
  have hu25 := Try.underlying25
  have HB := Aside0.mk (Below.refl w.heap.size w)
  have H : (if (a0.size : Int) > 2500 then ((hibernaclelaw12_awake.f k).bind fun t275 => (some t275)) else ((exe_Of.f k a0).bind fun bt276 => ((hibernacleref12_Of.f k a0).bind fun bt284 => (if bt276.2.2.2.2 = bt284.2.2.2.2 then ((hibernacleref12_Same.f k bt276.1 bt276.2.1 bt276.2.2.1 bt276.2.2.2.1 bt284.1 bt284.2.1 bt284.2.2.1 bt284.2.2.2.1).bind fun t292 => (hibernaclelaw12_ExeReads.j0 k a0 bt284.2.2.2.2 (!t292) bt276.1 bt276.2.1 bt276.2.2.1 bt276.2.2.2.1)) else (hibernaclelaw12_ExeReads.j0 k a0 bt284.2.2.2.2 true bt276.1 bt276.2.1 bt276.2.2.1 bt276.2.2.2.1))))) = some r := h
  clear h
  by_cases c2 : (a0.size : Int) > 2500
  · rw [if_pos c2] at H
    have c2b0 : decide (2500 < (a0.size : Int)) = true := decide_eq_true c2
    have c2b1 : decide (2500 < a0.size) = true := decide_eq_true (by omega)
    clear c2
    replace H := Option.bind_eq_some_iff.mp H
    obtain ⟨t275, A30, H⟩ := H
    replace H : (some t275) = some r := H
    have A3 := Aside0.mk A30
    clear A30
    obtain rfl := Option.some.inj H
    go_enter Try.func6, Try.ntmps6
    go_wp2_with (first | ((with_reducible refine gate_callee (f := 10) rfl ?_); refine goesL_ (some 12) rfl rfl Try.func10 (by kernel_rfl) rfl #[] rfl (by (try simp only [List.map_toArray, List.map_cons, List.map_nil]); first | done | rfl | (simp only [List.length_drop, List.length_take]; rfl)) ?_; (with_reducible refine (hibernaclelaw12_awake.calls k  t275 _ A3.out).mono ?_); rintro e w4 ⟨rfl, hb⟩; refine ⟨_, rfl, ?_⟩; have n0_ := Aside0.mk (below_step (by repeat (first | (with_reducible first | exact HB.out | apply below_alloc | apply pw_below_drewN | apply below_drew1) | exact HB.out)) hb); clear HB; have HB := n0_; clear n0_; (try clear hb); (try clear hb2); (try clear hk); (try clear hi)))
    go_ret
    exact ⟨by first | rfl | (simp [errW_none, errW_some] <;> rfl) | (simp [*, errW_none, errW_some] <;> rfl), by repeat (first | (with_reducible first | exact HB.out | apply below_alloc | apply pw_below_drewN | apply below_drew1) | exact HB.out)⟩
  · rw [if_neg c2] at H
    have c2b0 : decide (2500 < (a0.size : Int)) = false := decide_eq_false c2
    have c2b1 : decide (2500 < a0.size) = false := decide_eq_false (by omega)
    clear c2
    replace H := Option.bind_eq_some_iff.mp H
    obtain ⟨⟨t276, t279, t280, t281, t282⟩, A50, H⟩ := H
    replace H : ((hibernacleref12_Of.f k a0).bind fun bt284 => (if t282 = bt284.2.2.2.2 then ((hibernacleref12_Same.f k t276 t279 t280 t281 bt284.1 bt284.2.1 bt284.2.2.1 bt284.2.2.2.1).bind fun t292 => (hibernaclelaw12_ExeReads.j0 k a0 bt284.2.2.2.2 (!t292) t276 t279 t280 t281)) else (hibernaclelaw12_ExeReads.j0 k a0 bt284.2.2.2.2 true t276 t279 t280 t281))) = some r := H
    have A5 := Aside0.mk A50
    clear A50
    replace H := Option.bind_eq_some_iff.mp H
    obtain ⟨⟨t284, t287, t288, t289, t290⟩, A60, H⟩ := H
    replace H : (if t282 = t290 then ((hibernacleref12_Same.f k t276 t279 t280 t281 t284 t287 t288 t289).bind fun t292 => (hibernaclelaw12_ExeReads.j0 k a0 t290 (!t292) t276 t279 t280 t281)) else (hibernaclelaw12_ExeReads.j0 k a0 t290 true t276 t279 t280 t281)) = some r := H
    have A6 := Aside0.mk A60
    clear A60
    have HC7 := Aside0.mk H
    clear H
    go_enter Try.func6, Try.ntmps6
    go_upto_region 5 with (first | ((with_reducible refine gate_callee (f := 18) rfl ?_); refine goesL_ (some 15) rfl rfl Try.func18 (by kernel_rfl) rfl #[.string a0] rfl (by (try simp only [List.map_toArray, List.map_cons, List.map_nil]); first | done | rfl | (simp only [List.length_drop, List.length_take]; rfl)) ?_; (with_reducible refine (exe_Of.calls k a0 t276 t279 t280 t281 t282 _ A5.out).mono ?_); rintro e w8 ⟨v277, rfl, ho0, hb⟩; refine ⟨_, rfl, ?_⟩; have n0_ := Aside0.mk (Kd.R_lower ho0 (below_size (by repeat (first | (with_reducible first | exact HB.out | apply below_alloc | apply pw_below_drewN | apply below_drew1) | exact HB.out)))); have n1_ := Aside0.mk (below_step (by repeat (first | (with_reducible first | exact HB.out | apply below_alloc | apply pw_below_drewN | apply below_drew1) | exact HB.out)) hb); clear HB; have HO278 := n0_; have HB := n1_; clear n0_ n1_; (try clear hb); (try clear hb2); (try clear hk); (try clear hi); (try clear ho0)) | ((with_reducible refine gate_dst (N := 3) rfl ?_); refine box_event ?hg (N := 3) ?hd (cs := #[.slice none 0 0, .string (⟨#[]⟩ : ByteArray), .int .i64 0, .int .u32 0]) (t := 25) ?hr ?_; (case hd => rfl); (case hg => rfl); (case hr => first | (go_simp; done) | (go_simp; rfl)); intro gb283 hg w9 hbox hb; have n0_ := Aside0.mk (Kd.R_below (by (with_reducible repeat (first | apply Kd.R_alloc | apply Kd.R_drewN | apply Kd.R_drew)); exact HO278.out) hb); have n1_ := Aside0.mk (below_step (by repeat (first | (with_reducible first | exact HB.out | apply below_alloc | apply pw_below_drewN | apply below_drew1) | exact HB.out)) hb); have n2_ := Aside0.mk (hbox); have n3_ := Aside0.mk ((by rw [hg]; exact (below_size (by repeat (first | (with_reducible first | exact HB.out | apply below_alloc | apply pw_below_drewN | apply below_drew1) | exact HB.out))) : w.heap.size ≤ gb283)); have n4_ := Aside0.mk ((by rw [hg]; exact (below_size (by repeat (first | (with_reducible first | exact HB.out | apply below_alloc | apply pw_below_drewN | apply below_drew1) | exact HB.out))) : w.heap.size ≤ gb283)); clear HO278; clear HB; have HO278 := n0_; have HB := n1_; have BK283 := n2_; have GW283 := n3_; have GE283 := n4_; clear n0_ n1_ n2_ n3_ n4_; clear hb hbox hg; obtain ⟨Ao10, co10, eo10⟩ := Kd.R_slice HO278.out; subst eo10; have hcz11_0 : w9.cell? ⟨gb283, 0, none⟩ = some (.slice none 0 0) := (blk_cell BK283.out 0).trans rfl; have hcz11_1 : w9.cell? ⟨gb283, 1, none⟩ = some (.string (⟨#[]⟩ : ByteArray)) := (blk_cell BK283.out 1).trans rfl; have hcz11_2 : w9.cell? ⟨gb283, 2, none⟩ = some (.int .i64 0) := (blk_cell BK283.out 2).trans rfl; have hcz11_3 : w9.cell? ⟨gb283, 3, none⟩ = some (.int .u32 0) := (blk_cell BK283.out 3).trans rfl; have hfz11_0 := blk_frozen BK283.out 0; have hfz11_1 := blk_frozen BK283.out 1; have hfz11_2 := blk_frozen BK283.out 2; have hfz11_3 := blk_frozen BK283.out 3) | ((with_reducible refine gate_callee (f := 20) rfl ?_); refine goesL_ (some 20) rfl rfl Try.func20 (by kernel_rfl) rfl #[.string a0] rfl (by (try simp only [List.map_toArray, List.map_cons, List.map_nil]); first | done | rfl | (simp only [List.length_drop, List.length_take]; rfl)) ?_; (with_reducible refine (hibernacleref12_Of.calls k a0 t284 t287 t288 t289 t290 _ A6.out).mono ?_); rintro e w12 ⟨v285, rfl, ho0, hb⟩; refine ⟨_, rfl, ?_⟩; have n0_ := Aside0.mk (Kd.R_elder' (by (with_reducible repeat (first | apply Kd.R_alloc | apply Kd.R_drewN | apply Kd.R_drew)); exact (Kd.R_mono (Kd.R_far (p := ⟨gb283, 3, none⟩) (Kd.R_far (p := ⟨gb283, 2, none⟩) (Kd.R_far (p := ⟨gb283, 1, none⟩) (Kd.R_far (p := ⟨gb283, 0, none⟩) (Kd.R_types HO278.out BK283.out (by decide)) (fun _ hk => hk.2) (.slice Ao10 t276.length co10)) (fun _ hk => hk.2) (.string t279)) (fun _ hk => hk.2) (.int .i64 t280)) (fun _ hk => hk.2) (.int .u32 t281)) (fun _ h_ => h_.1))) (Kd.R_base ho0) hb); have n1_ := Aside0.mk (Kd.R_lower (Kd.R_new' ho0 (Kd.R_lt (by (with_reducible repeat (first | apply Kd.R_alloc | apply Kd.R_drewN | apply Kd.R_drew)); exact (Kd.R_mono (Kd.R_far (p := ⟨gb283, 3, none⟩) (Kd.R_far (p := ⟨gb283, 2, none⟩) (Kd.R_far (p := ⟨gb283, 1, none⟩) (Kd.R_far (p := ⟨gb283, 0, none⟩) (Kd.R_types HO278.out BK283.out (by decide)) (fun _ hk => hk.2) (.slice Ao10 t276.length co10)) (fun _ hk => hk.2) (.string t279)) (fun _ hk => hk.2) (.int .i64 t280)) (fun _ hk => hk.2) (.int .u32 t281)) (fun _ h_ => h_.1))))) (below_size (by repeat (first | (with_reducible first | exact HB.out | apply below_alloc | apply pw_below_drewN | apply below_drew1 | refine below_set ?_ GE283.out) | exact HB.out)))); have n2_ := Aside0.mk (blk_below (g := gb283) (o := .cells #[.slice Ao10 t276.length co10, .string t279, .int .i64 t280, .int .u32 t281] 25 (0, 0)) (by (with_reducible repeat (first | refine blk_drewN ?_ _ | refine blk_drew ?_ | refine blk_alloc ?_ _)); refine blk_put (cs := #[.slice Ao10 t276.length co10, .string t279, .int .i64 t280, .int .u32 0]) ?_ 3 _ rfl; (with_reducible repeat (first | refine blk_drewN ?_ _ | refine blk_drew ?_ | refine blk_alloc ?_ _)); refine blk_put (cs := #[.slice Ao10 t276.length co10, .string t279, .int .i64 0, .int .u32 0]) ?_ 2 _ rfl; (with_reducible repeat (first | refine blk_drewN ?_ _ | refine blk_drew ?_ | refine blk_alloc ?_ _)); refine blk_put (cs := #[.slice Ao10 t276.length co10, .string (⟨#[]⟩ : ByteArray), .int .i64 0, .int .u32 0]) ?_ 1 _ rfl; (with_reducible repeat (first | refine blk_drewN ?_ _ | refine blk_drew ?_ | refine blk_alloc ?_ _)); refine blk_put (cs := #[.slice none 0 0, .string (⟨#[]⟩ : ByteArray), .int .i64 0, .int .u32 0]) ?_ 0 _ rfl; (with_reducible repeat (first | refine blk_drewN ?_ _ | refine blk_drew ?_ | refine blk_alloc ?_ _)); exact BK283.out) hb); have n3_ := Aside0.mk (below_step (by repeat (first | (with_reducible first | exact HB.out | apply below_alloc | apply pw_below_drewN | apply below_drew1 | refine below_set ?_ GE283.out) | exact HB.out)) hb); clear HO278; clear BK283; clear HB; have HO278 := n0_; have HO286 := n1_; have BK283 := n2_; have HB := n3_; clear n0_ n1_ n2_ n3_; (try clear hb); (try clear hb2); (try clear hk); (try clear hi); (try clear ho0)) | ((with_reducible refine gate_dst (N := 5) rfl ?_); refine box_event ?hg (N := 5) ?hd (cs := #[.slice none 0 0, .string (⟨#[]⟩ : ByteArray), .int .i64 0, .int .u32 0]) (t := 25) ?hr ?_; (case hd => rfl); (case hg => rfl); (case hr => first | (go_simp; done) | (go_simp; rfl)); intro gb291 hg w13 hbox hb; have n0_ := Aside0.mk (Kd.R_below (by (with_reducible repeat (first | apply Kd.R_alloc | apply Kd.R_drewN | apply Kd.R_drew)); exact HO278.out) hb); have n1_ := Aside0.mk (Kd.R_below (by (with_reducible repeat (first | apply Kd.R_alloc | apply Kd.R_drewN | apply Kd.R_drew)); exact HO286.out) hb); have n2_ := Aside0.mk (blk_below (g := gb283) (o := .cells #[.slice Ao10 t276.length co10, .string t279, .int .i64 t280, .int .u32 t281] 25 (0, 0)) (by (with_reducible repeat (first | refine blk_drewN ?_ _ | refine blk_drew ?_ | refine blk_alloc ?_ _)); exact BK283.out) hb); have n3_ := Aside0.mk (below_step (by repeat (first | (with_reducible first | exact HB.out | apply below_alloc | apply pw_below_drewN | apply below_drew1 | refine below_set ?_ GE283.out) | exact HB.out)) hb); have n4_ := Aside0.mk (hbox); have n5_ := Aside0.mk ((by rw [hg]; exact (below_size (by repeat (first | (with_reducible first | exact HB.out | apply below_alloc | apply pw_below_drewN | apply below_drew1 | refine below_set ?_ GE283.out) | exact HB.out))) : w.heap.size ≤ gb291)); have n6_ := Aside0.mk ((by rw [hg]; exact (below_size (by repeat (first | (with_reducible first | exact HB.out | apply below_alloc | apply pw_below_drewN | apply below_drew1 | refine below_set ?_ GE283.out) | exact HB.out))) : w.heap.size ≤ gb291)); have n7_ := Aside0.mk ((by rw [hg]; exact Nat.ne_of_lt (blk_lt (g := gb283) (o := .cells #[.slice Ao10 t276.length co10, .string t279, .int .i64 t280, .int .u32 t281] 25 (0, 0)) (by (with_reducible repeat (first | refine blk_drewN ?_ _ | refine blk_drew ?_ | refine blk_alloc ?_ _)); exact BK283.out)) : gb283 ≠ gb291)); have n8_ := Aside0.mk ((by rw [hg]; exact Nat.ne_of_gt (blk_lt (g := gb283) (o := .cells #[.slice Ao10 t276.length co10, .string t279, .int .i64 t280, .int .u32 t281] 25 (0, 0)) (by (with_reducible repeat (first | refine blk_drewN ?_ _ | refine blk_drew ?_ | refine blk_alloc ?_ _)); exact BK283.out)) : gb291 ≠ gb283)); clear HO278; clear HO286; clear BK283; clear HB; have HO278 := n0_; have HO286 := n1_; have BK283 := n2_; have HB := n3_; have BK291 := n4_; have GW291 := n5_; have GE291 := n6_; have NB283_291 := n7_; have NB291_283 := n8_; clear n0_ n1_ n2_ n3_ n4_ n5_ n6_ n7_ n8_; clear hb hbox hg; obtain ⟨Ao14, co14, eo14⟩ := Kd.R_slice HO286.out; subst eo14; have hnb15 := NB291_283.out; have hnc15 := NB283_291.out; have hcz16_0 : w13.cell? ⟨gb291, 0, none⟩ = some (.slice none 0 0) := (blk_cell BK291.out 0).trans rfl; have hcz16_1 : w13.cell? ⟨gb291, 1, none⟩ = some (.string (⟨#[]⟩ : ByteArray)) := (blk_cell BK291.out 1).trans rfl; have hcz16_2 : w13.cell? ⟨gb291, 2, none⟩ = some (.int .i64 0) := (blk_cell BK291.out 2).trans rfl; have hcz16_3 : w13.cell? ⟨gb291, 3, none⟩ = some (.int .u32 0) := (blk_cell BK291.out 3).trans rfl; have hfz16_0 := blk_frozen BK291.out 0; have hfz16_1 := blk_frozen BK291.out 1; have hfz16_2 := blk_frozen BK291.out 2; have hfz16_3 := blk_frozen BK291.out 3))
    (try simp only [Act.put, List.setIfInBounds_toArray, List.set_cons_zero, List.set_cons_succ])
    go_cut [31] (fun v31 wc => ∃ (kq : Nat) (x31_6 : Bool), v31 = .bool x31_6 ∧ Aside0 (hibernaclelaw12_ExeReads.j0 kq a0 t290 x31_6 t276 t279 t280 t281 = some r) ∧ Aside0 (kq ≤ k) ∧ Aside0 (Kd.R (Kd.int .u32) 23 wc w.heap.size (fun k_ => some k_ ≠ ((.slice Ao14 t284.length co14) : Value).ownBlock) (.slice Ao10 t276.length co10) t276) ∧ Aside0 (Kd.R (Kd.int .u32) 23 wc w.heap.size (fun k_ => some k_ ≠ ((.slice Ao10 t276.length co10) : Value).ownBlock) (.slice Ao14 t284.length co14) t284) ∧ Aside0 (wc.heap[gb283]? = some (.cells #[(.slice Ao10 t276.length co10), .string t279, .int .i64 t280, .int .u32 t281] 25 (0, 0))) ∧ Aside0 (wc.heap[gb291]? = some (.cells #[(.slice Ao14 t284.length co14), .string t287, .int .i64 t288, .int .u32 t289] 25 (0, 0))) ∧ Aside0 (Below w.heap.size w wc))
    case first =>
      have H := HC7.out
      clear HC7
      by_cases c17 : t282 = t290
      · rw [if_pos c17] at H
        have c17b0 : (t282 == t290) = true := beq_iff_eq.mpr c17
        have c17b1 : (t282 != t290) = false := bne_eq_false_iff_eq.mpr c17
        clear c17
        (first | rw [c17b0] | (simp only [i64_w, i32_w]; rw [c17b0]) | skip)
        replace H := Option.bind_eq_some_iff.mp H
        obtain ⟨t292, A180, H⟩ := H
        replace H : (hibernaclelaw12_ExeReads.j0 k a0 t290 (!t292) t276 t279 t280 t281) = some r := H
        have A18 := Aside0.mk A180
        clear A180
        have H' := Aside0.mk H
        clear H
        have hnb19 := NB283_291.out
        have hnc19 := NB291_283.out
        have hcz20_0 : w13.cell? ⟨gb283, 0, none⟩ = some (.slice Ao10 t276.length co10) := (blk_cell BK283.out 0).trans rfl
        have hcz20_1 : w13.cell? ⟨gb283, 1, none⟩ = some (.string t279) := (blk_cell BK283.out 1).trans rfl
        have hcz20_2 : w13.cell? ⟨gb283, 2, none⟩ = some (.int .i64 t280) := (blk_cell BK283.out 2).trans rfl
        have hcz20_3 : w13.cell? ⟨gb283, 3, none⟩ = some (.int .u32 t281) := (blk_cell BK283.out 3).trans rfl
        have hfz20_0 := blk_frozen BK283.out 0
        have hfz20_1 := blk_frozen BK283.out 1
        have hfz20_2 := blk_frozen BK283.out 2
        have hfz20_3 := blk_frozen BK283.out 3
        have hcz21_0 : w13.cell? ⟨gb291, 0, none⟩ = some (.slice none 0 0) := (blk_cell BK291.out 0).trans rfl
        have hcz21_1 : w13.cell? ⟨gb291, 1, none⟩ = some (.string (⟨#[]⟩ : ByteArray)) := (blk_cell BK291.out 1).trans rfl
        have hcz21_2 : w13.cell? ⟨gb291, 2, none⟩ = some (.int .i64 0) := (blk_cell BK291.out 2).trans rfl
        have hcz21_3 : w13.cell? ⟨gb291, 3, none⟩ = some (.int .u32 0) := (blk_cell BK291.out 3).trans rfl
        have hfz21_0 := blk_frozen BK291.out 0
        have hfz21_1 := blk_frozen BK291.out 1
        have hfz21_2 := blk_frozen BK291.out 2
        have hfz21_3 := blk_frozen BK291.out 3
        go_wp2_with (first | (go_at_call 19; (with_reducible refine (hibernacleref12_Same.calls k _ _ t276 t279 t280 t281 _ _ t284 t287 t288 t289 t292 _ ?side1 ?side2 ?side3 ?side4 A18.out).mono ?_); (case side1 => refine (Kd.R_reads' (e := 23) (base := w.heap.size) (ok := fun k_ => (True ∧ some k_ ≠ (.slice Ao14 t284.length co14 : Value).ownBlock)) (n := t276.length) (c := co10) ?_).2.2; exact (by (with_reducible repeat (first | apply Kd.R_alloc | apply Kd.R_drewN | apply Kd.R_drew)); exact (Kd.R_mono (Kd.R_far (p := ⟨gb291, 3, none⟩) (Kd.R_far (p := ⟨gb291, 2, none⟩) (Kd.R_far (p := ⟨gb291, 1, none⟩) (Kd.R_far (p := ⟨gb291, 0, none⟩) (Kd.R_types HO278.out BK291.out (by decide)) (fun _ hk => hk.2) (.slice Ao14 t284.length co14)) (fun _ hk => hk.2) (.string t287)) (fun _ hk => hk.2) (.int .i64 t288)) (fun _ hk => hk.2) (.int .u32 t289)) (fun _ h_ => h_.1)))); (case side2 => exact (Kd.R_reads' HO278.out).2.1); (case side3 => refine (Kd.R_reads' (e := 23) (base := w.heap.size) (ok := fun k_ => (True ∧ some k_ ≠ (.slice Ao10 t276.length co10 : Value).ownBlock)) (n := t284.length) (c := co14) ?_).2.2; exact (by (with_reducible repeat (first | apply Kd.R_alloc | apply Kd.R_drewN | apply Kd.R_drew)); exact (Kd.R_mono (Kd.R_far (p := ⟨gb291, 3, none⟩) (Kd.R_far (p := ⟨gb291, 2, none⟩) (Kd.R_far (p := ⟨gb291, 1, none⟩) (Kd.R_far (p := ⟨gb291, 0, none⟩) (Kd.R_types HO286.out BK291.out (by decide)) (fun _ hk => hk.2) (.slice Ao14 t284.length co14)) (fun _ hk => hk.2) (.string t287)) (fun _ hk => hk.2) (.int .i64 t288)) (fun _ hk => hk.2) (.int .u32 t289)) (fun _ h_ => h_.1)))); (case side4 => exact (Kd.R_reads' HO286.out).2.1); rintro e w22 ⟨rfl, hb⟩; have n0_ := Aside0.mk (Kd.R_below (by (with_reducible repeat (first | apply Kd.R_alloc | apply Kd.R_drewN | apply Kd.R_drew)); exact (Kd.R_mono (Kd.R_far (p := ⟨gb291, 3, none⟩) (Kd.R_far (p := ⟨gb291, 2, none⟩) (Kd.R_far (p := ⟨gb291, 1, none⟩) (Kd.R_far (p := ⟨gb291, 0, none⟩) (Kd.R_types HO278.out BK291.out (by decide)) (fun _ hk => hk.2) (.slice Ao14 t284.length co14)) (fun _ hk => hk.2) (.string t287)) (fun _ hk => hk.2) (.int .i64 t288)) (fun _ hk => hk.2) (.int .u32 t289)) (fun _ h_ => h_.1))) hb); have n1_ := Aside0.mk (Kd.R_below (by (with_reducible repeat (first | apply Kd.R_alloc | apply Kd.R_drewN | apply Kd.R_drew)); exact (Kd.R_mono (Kd.R_far (p := ⟨gb291, 3, none⟩) (Kd.R_far (p := ⟨gb291, 2, none⟩) (Kd.R_far (p := ⟨gb291, 1, none⟩) (Kd.R_far (p := ⟨gb291, 0, none⟩) (Kd.R_types HO286.out BK291.out (by decide)) (fun _ hk => hk.2) (.slice Ao14 t284.length co14)) (fun _ hk => hk.2) (.string t287)) (fun _ hk => hk.2) (.int .i64 t288)) (fun _ hk => hk.2) (.int .u32 t289)) (fun _ h_ => h_.1))) hb); have n2_ := Aside0.mk (blk_below (g := gb283) (o := .cells #[.slice Ao10 t276.length co10, .string t279, .int .i64 t280, .int .u32 t281] 25 (0, 0)) (by (with_reducible repeat (first | refine blk_drewN ?_ _ | refine blk_drew ?_ | refine blk_alloc ?_ _)); refine blk_far ?_ NB283_291.out _; (with_reducible repeat (first | refine blk_drewN ?_ _ | refine blk_drew ?_ | refine blk_alloc ?_ _)); refine blk_far ?_ NB283_291.out _; (with_reducible repeat (first | refine blk_drewN ?_ _ | refine blk_drew ?_ | refine blk_alloc ?_ _)); refine blk_far ?_ NB283_291.out _; (with_reducible repeat (first | refine blk_drewN ?_ _ | refine blk_drew ?_ | refine blk_alloc ?_ _)); refine blk_far ?_ NB283_291.out _; (with_reducible repeat (first | refine blk_drewN ?_ _ | refine blk_drew ?_ | refine blk_alloc ?_ _)); exact BK283.out) hb); have n3_ := Aside0.mk (blk_below (g := gb291) (o := .cells #[.slice Ao14 t284.length co14, .string t287, .int .i64 t288, .int .u32 t289] 25 (0, 0)) (by (with_reducible repeat (first | refine blk_drewN ?_ _ | refine blk_drew ?_ | refine blk_alloc ?_ _)); refine blk_put (cs := #[.slice Ao14 t284.length co14, .string t287, .int .i64 t288, .int .u32 0]) ?_ 3 _ rfl; (with_reducible repeat (first | refine blk_drewN ?_ _ | refine blk_drew ?_ | refine blk_alloc ?_ _)); refine blk_put (cs := #[.slice Ao14 t284.length co14, .string t287, .int .i64 0, .int .u32 0]) ?_ 2 _ rfl; (with_reducible repeat (first | refine blk_drewN ?_ _ | refine blk_drew ?_ | refine blk_alloc ?_ _)); refine blk_put (cs := #[.slice Ao14 t284.length co14, .string (⟨#[]⟩ : ByteArray), .int .i64 0, .int .u32 0]) ?_ 1 _ rfl; (with_reducible repeat (first | refine blk_drewN ?_ _ | refine blk_drew ?_ | refine blk_alloc ?_ _)); refine blk_put (cs := #[.slice none 0 0, .string (⟨#[]⟩ : ByteArray), .int .i64 0, .int .u32 0]) ?_ 0 _ rfl; (with_reducible repeat (first | refine blk_drewN ?_ _ | refine blk_drew ?_ | refine blk_alloc ?_ _)); exact BK291.out) hb); have n4_ := Aside0.mk (below_step (by repeat (first | (with_reducible first | exact HB.out | apply below_alloc | apply pw_below_drewN | apply below_drew1 | refine below_set ?_ GE283.out | refine below_set ?_ GE291.out) | exact HB.out)) hb); clear HO278; clear HO286; clear BK283; clear BK291; clear HB; have HO278 := n0_; have HO286 := n1_; have BK283 := n2_; have BK291 := n3_; have HB := n4_; clear n0_ n1_ n2_ n3_ n4_; (try clear hb); (try clear hb2); (try clear hk); (try clear hi)))
        go_meet
        case rel => exact ⟨_, (!t292), (by first | rfl | (simp; done) | (simp [*]; done)), H', ⟨by first | omega | exact Nat.le_refl _⟩, ⟨by (with_reducible repeat (first | apply Kd.R_alloc | apply Kd.R_drewN | apply Kd.R_drew)); exact Kd.R_mono HO278.out (fun _ hk => hk.2)⟩, ⟨by (with_reducible repeat (first | apply Kd.R_alloc | apply Kd.R_drewN | apply Kd.R_drew)); exact Kd.R_mono HO286.out (fun _ hk => hk.2)⟩, ⟨by (with_reducible repeat (first | refine blk_drewN ?_ _ | refine blk_drew ?_ | refine blk_alloc ?_ _)); exact BK283.out⟩, ⟨by (with_reducible repeat (first | refine blk_drewN ?_ _ | refine blk_drew ?_ | refine blk_alloc ?_ _)); exact BK291.out⟩, ⟨by repeat (first | (with_reducible first | exact HB.out | apply below_alloc | apply pw_below_drewN | apply below_drew1 | refine below_set ?_ GE283.out | refine below_set ?_ GE291.out) | exact HB.out)⟩⟩
      · rw [if_neg c17] at H
        have c17b0 : (t282 == t290) = false := beq_eq_false_iff_ne.mpr c17
        have c17b1 : (t282 != t290) = true := bne_iff_ne.mpr c17
        (first | rw [c17b0] | (simp only [i64_w, i32_w]; rw [c17b0]) | skip)
        have H' := Aside0.mk H
        clear H
        go_wp2
        go_meet
        case rel => exact ⟨_, (true), (by first | rfl | (simp; done) | (simp [*]; done)), H', ⟨by first | omega | exact Nat.le_refl _⟩, ⟨by (with_reducible repeat (first | apply Kd.R_alloc | apply Kd.R_drewN | apply Kd.R_drew)); exact Kd.R_mono (Kd.R_far (p := ⟨gb291, 3, none⟩) (Kd.R_far (p := ⟨gb291, 2, none⟩) (Kd.R_far (p := ⟨gb291, 1, none⟩) (Kd.R_far (p := ⟨gb291, 0, none⟩) (Kd.R_types HO278.out BK291.out (by decide)) (fun _ hk => hk.2) (.slice Ao14 t284.length co14)) (fun _ hk => hk.2) (.string t287)) (fun _ hk => hk.2) (.int .i64 t288)) (fun _ hk => hk.2) (.int .u32 t289)) (fun _ hk => hk.1.2)⟩, ⟨by (with_reducible repeat (first | apply Kd.R_alloc | apply Kd.R_drewN | apply Kd.R_drew)); exact Kd.R_mono (Kd.R_far (p := ⟨gb291, 3, none⟩) (Kd.R_far (p := ⟨gb291, 2, none⟩) (Kd.R_far (p := ⟨gb291, 1, none⟩) (Kd.R_far (p := ⟨gb291, 0, none⟩) (Kd.R_types HO286.out BK291.out (by decide)) (fun _ hk => hk.2) (.slice Ao14 t284.length co14)) (fun _ hk => hk.2) (.string t287)) (fun _ hk => hk.2) (.int .i64 t288)) (fun _ hk => hk.2) (.int .u32 t289)) (fun _ hk => hk.1.2)⟩, ⟨by (with_reducible repeat (first | refine blk_drewN ?_ _ | refine blk_drew ?_ | refine blk_alloc ?_ _)); refine blk_far ?_ NB283_291.out _; (with_reducible repeat (first | refine blk_drewN ?_ _ | refine blk_drew ?_ | refine blk_alloc ?_ _)); refine blk_far ?_ NB283_291.out _; (with_reducible repeat (first | refine blk_drewN ?_ _ | refine blk_drew ?_ | refine blk_alloc ?_ _)); refine blk_far ?_ NB283_291.out _; (with_reducible repeat (first | refine blk_drewN ?_ _ | refine blk_drew ?_ | refine blk_alloc ?_ _)); refine blk_far ?_ NB283_291.out _; (with_reducible repeat (first | refine blk_drewN ?_ _ | refine blk_drew ?_ | refine blk_alloc ?_ _)); exact BK283.out⟩, ⟨by (with_reducible repeat (first | refine blk_drewN ?_ _ | refine blk_drew ?_ | refine blk_alloc ?_ _)); refine blk_put (cs := #[.slice Ao14 t284.length co14, .string t287, .int .i64 t288, .int .u32 0]) ?_ 3 _ rfl; (with_reducible repeat (first | refine blk_drewN ?_ _ | refine blk_drew ?_ | refine blk_alloc ?_ _)); refine blk_put (cs := #[.slice Ao14 t284.length co14, .string t287, .int .i64 0, .int .u32 0]) ?_ 2 _ rfl; (with_reducible repeat (first | refine blk_drewN ?_ _ | refine blk_drew ?_ | refine blk_alloc ?_ _)); refine blk_put (cs := #[.slice Ao14 t284.length co14, .string (⟨#[]⟩ : ByteArray), .int .i64 0, .int .u32 0]) ?_ 1 _ rfl; (with_reducible repeat (first | refine blk_drewN ?_ _ | refine blk_drew ?_ | refine blk_alloc ?_ _)); refine blk_put (cs := #[.slice none 0 0, .string (⟨#[]⟩ : ByteArray), .int .i64 0, .int .u32 0]) ?_ 0 _ rfl; (with_reducible repeat (first | refine blk_drewN ?_ _ | refine blk_drew ?_ | refine blk_alloc ?_ _)); exact BK291.out⟩, ⟨by repeat (first | (with_reducible first | exact HB.out | apply below_alloc | apply pw_below_drewN | apply below_drew1 | refine below_set ?_ GE283.out | refine below_set ?_ GE291.out) | exact HB.out)⟩⟩
    case rest =>
      clear HC7
      try clear c1
      try clear c2
      try clear c2b0
      try clear c2b1
      try clear p2
      try clear c6
      try clear c10
      try clear c15
      try clear c17
      try clear c17b0
      try clear c17b1
      try clear c18
      try clear c19
      try clear c20
      try clear hcz11_0
      try clear hcz11_1
      try clear hcz11_2
      try clear hcz11_3
      try clear hcz16_0
      try clear hcz16_1
      try clear hcz16_2
      try clear hcz16_3
      try clear hcz20_0
      try clear hcz20_1
      try clear hcz20_2
      try clear hcz20_3
      try clear hcz21_0
      try clear hcz21_1
      try clear hcz21_2
      try clear hcz21_3
      try clear hfz11_0
      try clear hfz11_1
      try clear hfz11_2
      try clear hfz11_3
      try clear hfz16_0
      try clear hfz16_1
      try clear hfz16_2
      try clear hfz16_3
      try clear hfz20_0
      try clear hfz20_1
      try clear hfz20_2
      try clear hfz20_3
      try clear hfz21_0
      try clear hfz21_1
      try clear hfz21_2
      try clear hfz21_3
      obtain ⟨kq, x31_6, rfl, HA, HJ6, HO_284000, HO_292000, BK283, BK291, HB⟩ := hcut
      cases kq with
      | zero => exact absurd HA.out (by simp [hibernaclelaw12_ExeReads.j0])
      | succ kj6 =>
        have H := HA.out
        clear HA
        simp only [hibernaclelaw12_ExeReads.j0] at H
        by_cases c23 : x31_6 = true
        · subst c23
          have H1 : (some false) = some r := by rw [if_pos rfl] at H; exact H
          clear H
          have H := H1
          clear H1
          obtain rfl := Option.some.inj H
          go_wp2
          go_ret
          exact ⟨by first | rfl | (simp [errW_none, errW_some] <;> rfl) | (simp [*, errW_none, errW_some] <;> rfl), by repeat (first | (with_reducible first | exact HB.out | apply below_alloc | apply pw_below_drewN | apply below_drew1 | refine below_set ?_ GE283.out | refine below_set ?_ GE291.out) | exact HB.out)⟩
        · replace c23 := Bool.eq_false_iff.mpr c23
          subst c23
          have H1 : (if t290 = 0 then ((exe_Bytes.f t276 t279 t280 t281).bind fun bt293 => (if bt293.2 = 0 then (if bt293.1.toList = a0.toList then ((hibernaclelaw12_awake.f kj6).bind fun t295 => (some t295)) else (some false)) else (some false))) else ((hibernaclelaw12_awake.f kj6).bind fun t296 => (some t296))) = some r := by rw [if_neg (show ¬ (false = true) by decide)] at H; exact H
          clear H
          have H := H1
          clear H1
          by_cases c24 : t290 = 0
          · rw [if_pos c24] at H
            have c24b0 : (t290 == 0) = true := beq_iff_eq.mpr c24
            have c24b1 : (t290 != 0) = false := bne_eq_false_iff_eq.mpr c24
            clear c24
            replace H := Option.bind_eq_some_iff.mp H
            obtain ⟨⟨t293, t294⟩, A250, H⟩ := H
            replace H : (if t294 = 0 then (if t293.toList = a0.toList then ((hibernaclelaw12_awake.f kj6).bind fun t295 => (some t295)) else (some false)) else (some false)) = some r := H
            have A25 := Aside0.mk A250
            clear A250
            by_cases c26 : t294 = 0
            · rw [if_pos c26] at H
              have c26b0 : (t294 == 0) = true := beq_iff_eq.mpr c26
              have c26b1 : (t294 != 0) = false := bne_eq_false_iff_eq.mpr c26
              clear c26
              by_cases c27 : t293.toList = a0.toList
              · rw [if_pos c27] at H
                have c27b0 : (t293.toList == a0.toList) = true := beq_iff_eq.mpr c27
                have c27b1 : (t293.toList != a0.toList) = false := bne_eq_false_iff_eq.mpr c27
                clear c27
                replace H := Option.bind_eq_some_iff.mp H
                obtain ⟨t295, A280, H⟩ := H
                replace H : (some t295) = some r := H
                have A28 := Aside0.mk A280
                clear A280
                obtain rfl := Option.some.inj H
                have hnb29 := NB283_291.out
                have hnc29 := NB291_283.out
                have hcz30_0 : wc.cell? ⟨gb283, 0, none⟩ = some (.slice Ao10 t276.length co10) := (blk_cell BK283.out 0).trans rfl
                have hcz30_1 : wc.cell? ⟨gb283, 1, none⟩ = some (.string t279) := (blk_cell BK283.out 1).trans rfl
                have hcz30_2 : wc.cell? ⟨gb283, 2, none⟩ = some (.int .i64 t280) := (blk_cell BK283.out 2).trans rfl
                have hcz30_3 : wc.cell? ⟨gb283, 3, none⟩ = some (.int .u32 t281) := (blk_cell BK283.out 3).trans rfl
                have hfz30_0 := blk_frozen BK283.out 0
                have hfz30_1 := blk_frozen BK283.out 1
                have hfz30_2 := blk_frozen BK283.out 2
                have hfz30_3 := blk_frozen BK283.out 3
                go_wp2_with (first | ((with_reducible refine gate_callee (f := 15) rfl ?_); refine goesL_ (some 37) rfl rfl Try.func15 (by kernel_rfl) rfl #[.agg #[.slice Ao10 t276.length co10, .string t279, .int .i64 t280, .int .u32 t281]] rfl (by (try simp only [List.map_toArray, List.map_cons, List.map_nil]); first | done | rfl | (simp only [List.length_drop, List.length_take]; rfl)) ?_; (with_reducible refine (exe_Bytes.calls _ _ t276 t279 t280 t281 t293 t294 _ ?side1 ?side2 A25.out).mono ?_); (case side1 => repeat (first | exact (Kd.R_reads' HO_284000.out).2.2 | (with_reducible refine Kd.C_alloc ?_ _) | (with_reducible refine Kd.C_drewN ?_ _) | (with_reducible refine Kd.C_drew ?_))); (case side2 => exact (Kd.R_reads' HO_284000.out).2.1); rintro e w31 ⟨rfl, hb⟩; refine ⟨_, rfl, ?_⟩; have n0_ := Aside0.mk (Kd.R_below (by (with_reducible repeat (first | apply Kd.R_alloc | apply Kd.R_drewN | apply Kd.R_drew)); exact HO_284000.out) hb); have n1_ := Aside0.mk (Kd.R_below (by (with_reducible repeat (first | apply Kd.R_alloc | apply Kd.R_drewN | apply Kd.R_drew)); exact HO_292000.out) hb); have n2_ := Aside0.mk (blk_below (g := gb283) (o := .cells #[.slice Ao10 t276.length co10, .string t279, .int .i64 t280, .int .u32 t281] 25 (0, 0)) (by (with_reducible repeat (first | refine blk_drewN ?_ _ | refine blk_drew ?_ | refine blk_alloc ?_ _)); exact BK283.out) hb); have n3_ := Aside0.mk (blk_below (g := gb291) (o := .cells #[.slice Ao14 t284.length co14, .string t287, .int .i64 t288, .int .u32 t289] 25 (0, 0)) (by (with_reducible repeat (first | refine blk_drewN ?_ _ | refine blk_drew ?_ | refine blk_alloc ?_ _)); exact BK291.out) hb); have n4_ := Aside0.mk (below_step (by repeat (first | (with_reducible first | exact HB.out | apply below_alloc | apply pw_below_drewN | apply below_drew1 | refine below_set ?_ GE283.out | refine below_set ?_ GE291.out) | exact HB.out)) hb); clear HO_284000; clear HO_292000; clear BK283; clear BK291; clear HB; have HO_284000 := n0_; have HO_292000 := n1_; have BK283 := n2_; have BK291 := n3_; have HB := n4_; clear n0_ n1_ n2_ n3_ n4_; (try clear hb); (try clear hb2); (try clear hk); (try clear hi)) | (go_at_call 10; (with_reducible refine (hibernaclelaw12_awake.calls kj6  t295 _ A28.out).mono ?_); rintro e w32 ⟨rfl, hb⟩; have n0_ := Aside0.mk (Kd.R_below (by (with_reducible repeat (first | apply Kd.R_alloc | apply Kd.R_drewN | apply Kd.R_drew)); exact HO_284000.out) hb); have n1_ := Aside0.mk (Kd.R_below (by (with_reducible repeat (first | apply Kd.R_alloc | apply Kd.R_drewN | apply Kd.R_drew)); exact HO_292000.out) hb); have n2_ := Aside0.mk (blk_below (g := gb283) (o := .cells #[.slice Ao10 t276.length co10, .string t279, .int .i64 t280, .int .u32 t281] 25 (0, 0)) (by (with_reducible repeat (first | refine blk_drewN ?_ _ | refine blk_drew ?_ | refine blk_alloc ?_ _)); exact BK283.out) hb); have n3_ := Aside0.mk (blk_below (g := gb291) (o := .cells #[.slice Ao14 t284.length co14, .string t287, .int .i64 t288, .int .u32 t289] 25 (0, 0)) (by (with_reducible repeat (first | refine blk_drewN ?_ _ | refine blk_drew ?_ | refine blk_alloc ?_ _)); exact BK291.out) hb); have n4_ := Aside0.mk (below_step (by repeat (first | (with_reducible first | exact HB.out | apply below_alloc | apply pw_below_drewN | apply below_drew1 | refine below_set ?_ GE283.out | refine below_set ?_ GE291.out) | exact HB.out)) hb); clear HO_284000; clear HO_292000; clear BK283; clear BK291; clear HB; have HO_284000 := n0_; have HO_292000 := n1_; have BK283 := n2_; have BK291 := n3_; have HB := n4_; clear n0_ n1_ n2_ n3_ n4_; (try clear hb); (try clear hb2); (try clear hk); (try clear hi)))
                go_ret
                exact ⟨by first | rfl | (simp [errW_none, errW_some] <;> rfl) | (simp [*, errW_none, errW_some] <;> rfl), by repeat (first | (with_reducible first | exact HB.out | apply below_alloc | apply pw_below_drewN | apply below_drew1 | refine below_set ?_ GE283.out | refine below_set ?_ GE291.out) | exact HB.out)⟩
              · rw [if_neg c27] at H
                have c27b0 : (t293.toList == a0.toList) = false := beq_eq_false_iff_ne.mpr c27
                have c27b1 : (t293.toList != a0.toList) = true := bne_iff_ne.mpr c27
                obtain rfl := Option.some.inj H
                have hnb33 := NB283_291.out
                have hnc33 := NB291_283.out
                have hcz34_0 : wc.cell? ⟨gb283, 0, none⟩ = some (.slice Ao10 t276.length co10) := (blk_cell BK283.out 0).trans rfl
                have hcz34_1 : wc.cell? ⟨gb283, 1, none⟩ = some (.string t279) := (blk_cell BK283.out 1).trans rfl
                have hcz34_2 : wc.cell? ⟨gb283, 2, none⟩ = some (.int .i64 t280) := (blk_cell BK283.out 2).trans rfl
                have hcz34_3 : wc.cell? ⟨gb283, 3, none⟩ = some (.int .u32 t281) := (blk_cell BK283.out 3).trans rfl
                have hfz34_0 := blk_frozen BK283.out 0
                have hfz34_1 := blk_frozen BK283.out 1
                have hfz34_2 := blk_frozen BK283.out 2
                have hfz34_3 := blk_frozen BK283.out 3
                go_wp2_with (first | ((with_reducible refine gate_callee (f := 15) rfl ?_); refine goesL_ (some 37) rfl rfl Try.func15 (by kernel_rfl) rfl #[.agg #[.slice Ao10 t276.length co10, .string t279, .int .i64 t280, .int .u32 t281]] rfl (by (try simp only [List.map_toArray, List.map_cons, List.map_nil]); first | done | rfl | (simp only [List.length_drop, List.length_take]; rfl)) ?_; (with_reducible refine (exe_Bytes.calls _ _ t276 t279 t280 t281 t293 t294 _ ?side1 ?side2 A25.out).mono ?_); (case side1 => repeat (first | exact (Kd.R_reads' HO_284000.out).2.2 | (with_reducible refine Kd.C_alloc ?_ _) | (with_reducible refine Kd.C_drewN ?_ _) | (with_reducible refine Kd.C_drew ?_))); (case side2 => exact (Kd.R_reads' HO_284000.out).2.1); rintro e w35 ⟨rfl, hb⟩; refine ⟨_, rfl, ?_⟩; have n0_ := Aside0.mk (Kd.R_below (by (with_reducible repeat (first | apply Kd.R_alloc | apply Kd.R_drewN | apply Kd.R_drew)); exact HO_284000.out) hb); have n1_ := Aside0.mk (Kd.R_below (by (with_reducible repeat (first | apply Kd.R_alloc | apply Kd.R_drewN | apply Kd.R_drew)); exact HO_292000.out) hb); have n2_ := Aside0.mk (blk_below (g := gb283) (o := .cells #[.slice Ao10 t276.length co10, .string t279, .int .i64 t280, .int .u32 t281] 25 (0, 0)) (by (with_reducible repeat (first | refine blk_drewN ?_ _ | refine blk_drew ?_ | refine blk_alloc ?_ _)); exact BK283.out) hb); have n3_ := Aside0.mk (blk_below (g := gb291) (o := .cells #[.slice Ao14 t284.length co14, .string t287, .int .i64 t288, .int .u32 t289] 25 (0, 0)) (by (with_reducible repeat (first | refine blk_drewN ?_ _ | refine blk_drew ?_ | refine blk_alloc ?_ _)); exact BK291.out) hb); have n4_ := Aside0.mk (below_step (by repeat (first | (with_reducible first | exact HB.out | apply below_alloc | apply pw_below_drewN | apply below_drew1 | refine below_set ?_ GE283.out | refine below_set ?_ GE291.out) | exact HB.out)) hb); clear HO_284000; clear HO_292000; clear BK283; clear BK291; clear HB; have HO_284000 := n0_; have HO_292000 := n1_; have BK283 := n2_; have BK291 := n3_; have HB := n4_; clear n0_ n1_ n2_ n3_ n4_; (try clear hb); (try clear hb2); (try clear hk); (try clear hi)))
                go_ret
                exact ⟨by first | rfl | (simp [errW_none, errW_some] <;> rfl) | (simp [*, errW_none, errW_some] <;> rfl), by repeat (first | (with_reducible first | exact HB.out | apply below_alloc | apply pw_below_drewN | apply below_drew1 | refine below_set ?_ GE283.out | refine below_set ?_ GE291.out) | exact HB.out)⟩
            · rw [if_neg c26] at H
              have c26b0 : (t294 == 0) = false := beq_eq_false_iff_ne.mpr c26
              have c26b1 : (t294 != 0) = true := bne_iff_ne.mpr c26
              obtain rfl := Option.some.inj H
              have hnb36 := NB283_291.out
              have hnc36 := NB291_283.out
              have hcz37_0 : wc.cell? ⟨gb283, 0, none⟩ = some (.slice Ao10 t276.length co10) := (blk_cell BK283.out 0).trans rfl
              have hcz37_1 : wc.cell? ⟨gb283, 1, none⟩ = some (.string t279) := (blk_cell BK283.out 1).trans rfl
              have hcz37_2 : wc.cell? ⟨gb283, 2, none⟩ = some (.int .i64 t280) := (blk_cell BK283.out 2).trans rfl
              have hcz37_3 : wc.cell? ⟨gb283, 3, none⟩ = some (.int .u32 t281) := (blk_cell BK283.out 3).trans rfl
              have hfz37_0 := blk_frozen BK283.out 0
              have hfz37_1 := blk_frozen BK283.out 1
              have hfz37_2 := blk_frozen BK283.out 2
              have hfz37_3 := blk_frozen BK283.out 3
              go_wp2_with (first | ((with_reducible refine gate_callee (f := 15) rfl ?_); refine goesL_ (some 37) rfl rfl Try.func15 (by kernel_rfl) rfl #[.agg #[.slice Ao10 t276.length co10, .string t279, .int .i64 t280, .int .u32 t281]] rfl (by (try simp only [List.map_toArray, List.map_cons, List.map_nil]); first | done | rfl | (simp only [List.length_drop, List.length_take]; rfl)) ?_; (with_reducible refine (exe_Bytes.calls _ _ t276 t279 t280 t281 t293 t294 _ ?side1 ?side2 A25.out).mono ?_); (case side1 => repeat (first | exact (Kd.R_reads' HO_284000.out).2.2 | (with_reducible refine Kd.C_alloc ?_ _) | (with_reducible refine Kd.C_drewN ?_ _) | (with_reducible refine Kd.C_drew ?_))); (case side2 => exact (Kd.R_reads' HO_284000.out).2.1); rintro e w38 ⟨rfl, hb⟩; refine ⟨_, rfl, ?_⟩; have n0_ := Aside0.mk (Kd.R_below (by (with_reducible repeat (first | apply Kd.R_alloc | apply Kd.R_drewN | apply Kd.R_drew)); exact HO_284000.out) hb); have n1_ := Aside0.mk (Kd.R_below (by (with_reducible repeat (first | apply Kd.R_alloc | apply Kd.R_drewN | apply Kd.R_drew)); exact HO_292000.out) hb); have n2_ := Aside0.mk (blk_below (g := gb283) (o := .cells #[.slice Ao10 t276.length co10, .string t279, .int .i64 t280, .int .u32 t281] 25 (0, 0)) (by (with_reducible repeat (first | refine blk_drewN ?_ _ | refine blk_drew ?_ | refine blk_alloc ?_ _)); exact BK283.out) hb); have n3_ := Aside0.mk (blk_below (g := gb291) (o := .cells #[.slice Ao14 t284.length co14, .string t287, .int .i64 t288, .int .u32 t289] 25 (0, 0)) (by (with_reducible repeat (first | refine blk_drewN ?_ _ | refine blk_drew ?_ | refine blk_alloc ?_ _)); exact BK291.out) hb); have n4_ := Aside0.mk (below_step (by repeat (first | (with_reducible first | exact HB.out | apply below_alloc | apply pw_below_drewN | apply below_drew1 | refine below_set ?_ GE283.out | refine below_set ?_ GE291.out) | exact HB.out)) hb); clear HO_284000; clear HO_292000; clear BK283; clear BK291; clear HB; have HO_284000 := n0_; have HO_292000 := n1_; have BK283 := n2_; have BK291 := n3_; have HB := n4_; clear n0_ n1_ n2_ n3_ n4_; (try clear hb); (try clear hb2); (try clear hk); (try clear hi)))
              go_ret
              exact ⟨by first | rfl | (simp [errW_none, errW_some] <;> rfl) | (simp [*, errW_none, errW_some] <;> rfl), by repeat (first | (with_reducible first | exact HB.out | apply below_alloc | apply pw_below_drewN | apply below_drew1 | refine below_set ?_ GE283.out | refine below_set ?_ GE291.out) | exact HB.out)⟩
          · rw [if_neg c24] at H
            have c24b0 : (t290 == 0) = false := beq_eq_false_iff_ne.mpr c24
            have c24b1 : (t290 != 0) = true := bne_iff_ne.mpr c24
            replace H := Option.bind_eq_some_iff.mp H
            obtain ⟨t296, A390, H⟩ := H
            replace H : (some t296) = some r := H
            have A39 := Aside0.mk A390
            clear A390
            obtain rfl := Option.some.inj H
            go_wp2_with (first | ((with_reducible refine gate_callee (f := 10) rfl ?_); refine goesL_ (some 34) rfl rfl Try.func10 (by kernel_rfl) rfl #[] rfl (by (try simp only [List.map_toArray, List.map_cons, List.map_nil]); first | done | rfl | (simp only [List.length_drop, List.length_take]; rfl)) ?_; (with_reducible refine (hibernaclelaw12_awake.calls kj6  t296 _ A39.out).mono ?_); rintro e w40 ⟨rfl, hb⟩; refine ⟨_, rfl, ?_⟩; have n0_ := Aside0.mk (Kd.R_below (by (with_reducible repeat (first | apply Kd.R_alloc | apply Kd.R_drewN | apply Kd.R_drew)); exact HO_284000.out) hb); have n1_ := Aside0.mk (Kd.R_below (by (with_reducible repeat (first | apply Kd.R_alloc | apply Kd.R_drewN | apply Kd.R_drew)); exact HO_292000.out) hb); have n2_ := Aside0.mk (blk_below (g := gb283) (o := .cells #[.slice Ao10 t276.length co10, .string t279, .int .i64 t280, .int .u32 t281] 25 (0, 0)) (by (with_reducible repeat (first | refine blk_drewN ?_ _ | refine blk_drew ?_ | refine blk_alloc ?_ _)); exact BK283.out) hb); have n3_ := Aside0.mk (blk_below (g := gb291) (o := .cells #[.slice Ao14 t284.length co14, .string t287, .int .i64 t288, .int .u32 t289] 25 (0, 0)) (by (with_reducible repeat (first | refine blk_drewN ?_ _ | refine blk_drew ?_ | refine blk_alloc ?_ _)); exact BK291.out) hb); have n4_ := Aside0.mk (below_step (by repeat (first | (with_reducible first | exact HB.out | apply below_alloc | apply pw_below_drewN | apply below_drew1 | refine below_set ?_ GE283.out | refine below_set ?_ GE291.out) | exact HB.out)) hb); clear HO_284000; clear HO_292000; clear BK283; clear BK291; clear HB; have HO_284000 := n0_; have HO_292000 := n1_; have BK283 := n2_; have BK291 := n3_; have HB := n4_; clear n0_ n1_ n2_ n3_ n4_; (try clear hb); (try clear hb2); (try clear hk); (try clear hi)))
            go_ret
            exact ⟨by first | rfl | (simp [errW_none, errW_some] <;> rfl) | (simp [*, errW_none, errW_some] <;> rfl), by repeat (first | (with_reducible first | exact HB.out | apply below_alloc | apply pw_below_drewN | apply below_drew1 | refine below_set ?_ GE283.out | refine below_set ?_ GE291.out) | exact HB.out)⟩
def hibernaclelaw12_ExeReads.Pure : Prop := ∀ (a0 : ByteArray), a0.size ≤ 140737488351232 → ∃ k, hibernaclelaw12_ExeReads.f k a0 = some true
theorem hibernaclelaw12_ExeReads.walk (P : hibernaclelaw12_ExeReads.Pure) (a0 : ByteArray) (w : World) (w0 : a0.size ≤ 140737488351232) :
    Calls Try.prog 6 #[.string a0] w fun e w' => e = .returned (.bool true) ∧ Below w.heap.size w w' := by
  obtain ⟨k, h⟩ := P a0 w0
  refine (hibernaclelaw12_ExeReads.calls k a0 true w h).mono ?_
  rintro e w' ⟨rfl, hd⟩
  exact ⟨rfl, hd⟩
end Go.Proofs.Ytgjhabeoaejcdaa.P
end
section
namespace Go.Proofs.Ytgjhabeoaejcdaa.Q
open Go.RowKit Go.Proofs.Ytgjhabeoaejcdaa.P Go.Proofs.YtgjhabeoaejcdaaW.PrintWords Go.Proofs.YtgjhabeoaejcdaaW.PrintLast Go.Proofs.YtgjhabeoaejcdaaW.PrintMore
theorem ref_pages_eq (n : Nat) (h : n ≤ 4611686018427387904) : hibernacleref12_pages.f n = some (pg n : Int) := by
  unfold hibernacleref12_pages.f pg
  rw [wrap64_id (n := (n : Int) + 127) (by omega) (by omega), tdiv_nn (by omega), wrap64_id (by omega) (by omega), Option.some.injEq]
  omega
theorem ref_check_last (l : List Int) (b : ByteArray) (c e : Int) (n : Nat) (t : Bool) (hn : n ≤ 1000) (hb : b.size ≤ 1000000000) (hc0 : 0 ≤ c) (hc1 : c ≤ 1000000000) (h : t = false) (r : Int)
    (hr : (if pg (4 * n) + pg (b.size + c.toNat) ≤ 14 then (0 : Int) else 1) = r) : Ev (fun k => hibernacleref12_Check.j0 k n t l b c e) r := by
  subst h
  refine Ev.step (f := fun _ => some r) (fun k => ?_) (Ev.now _)
  simp only [hibernacleref12_Check.j0]
  have e1 : 4 * (n : Int) = ((4 * n : Nat) : Int) := by omega
  have e2 : (b.size : Int) + c = ((b.size + c.toNat : Nat) : Int) := by omega
  have p1 : pg (4 * n) ≤ 1000 := by unfold pg; omega
  have p2 : pg (b.size + c.toNat) ≤ 100000000 := by unfold pg; omega
  rw [if_neg (by simp), wrap64_id (n := 4 * (n : Int)) (by omega) (by omega), e1, ref_pages_eq _ (by omega), Option.bind_some, wrap64_id (n := (b.size : Int) + c) (by omega) (by omega), e2, ref_pages_eq _ (by omega), Option.bind_some,
    wrap64_id (n := (pg (4 * n) : Int) + (pg (b.size + c.toNat) : Int)) (by omega) (by omega)]
  rw [← hr]
  by_cases h7 : pg (4 * n) + pg (b.size + c.toNat) ≤ 14
  · rw [if_neg (by omega), if_pos h7]
  · rw [if_pos (by omega), if_neg h7]
theorem ref_check_bad (l : List Int) (b : ByteArray) (c e : Int) (n : Int) : Ev (fun k => hibernacleref12_Check.j0 k n true l b c e) 1 :=
  Ev.step (f := fun _ => some 1) (fun k => by simp only [hibernacleref12_Check.j0]; rw [if_pos trivial]) (Ev.now _)
theorem ref_check (l : List Int) (b : ByteArray) (c e : Int) (hb : b.size ≤ 1000000000) (he0 : 0 ≤ e) (he1 : e < 4294967296) : Ev (fun k => hibernacleref12_Check.f k l b c e) (chk l b c e) := by
  unfold hibernacleref12_Check.f chk
  by_cases h1 : l.length < 1
  · rw [if_neg (by omega)]
    exact Ev.congr (fun k => if_pos (by omega)) (ref_check_bad ..)
  refine Ev.congr (fun k => if_neg (by omega)) ?_
  by_cases h2 : 448 < l.length
  · rw [if_neg (by omega)]
    exact Ev.congr (fun k => if_pos (by omega)) (ref_check_bad ..)
  refine Ev.congr (fun k => if_neg (by omega)) ?_
  by_cases h3 : c < 0
  · rw [if_neg (by omega)]
    exact Ev.congr (fun k => if_pos (by omega)) (ref_check_bad ..)
  refine Ev.congr (fun k => if_neg (by omega)) ?_
  by_cases h4 : 2048 < c
  · rw [if_neg (by omega)]
    exact Ev.congr (fun k => if_pos (by omega)) (ref_check_bad ..)
  refine Ev.congr (fun k => if_neg (by omega)) ?_
  by_cases h5 : 2048 < b.size
  · rw [if_neg (by unfold pg; omega)]
    exact Ev.congr (fun k => if_pos (by omega)) (ref_check_bad ..)
  refine Ev.congr (fun k => if_neg (by omega)) ?_
  by_cases h6 : e % 4 = 0
  · refine Ev.congr (fun k => if_pos (by rw [tmod_nn he0]; exact h6)) ?_
    rw [wrap64_id (n := e) (by omega) (by omega), wrap64_id (n := 4 * (l.length : Int)) (by omega) (by omega)]
    by_cases h7 : e < 4 * (l.length : Int)
    · refine ref_check_last l b c e l.length _ (by omega) hb (by omega) (by omega) (by simp; omega) _ ?_
      by_cases h8 : pg (4 * l.length) + pg (b.size + c.toNat) ≤ 14
      · rw [if_pos h8, if_pos ⟨by omega, by omega, by omega, by unfold pg at h8; omega, h6, h7, h8⟩]
      · rw [if_neg h8, if_neg (by omega)]
    · rw [if_neg (by omega), show decide (e ≥ 4 * (l.length : Int)) = true from decide_eq_true (by omega)]
      exact ref_check_bad ..
  · rw [if_neg (by omega)]
    exact Ev.congr (fun k => if_neg (by rw [tmod_nn he0]; exact h6)) (ref_check_bad ..)
end Go.Proofs.Ytgjhabeoaejcdaa.Q
end
section
namespace Go.Proofs.Ytgjhabeoaejcdaa.P
open Go.RowKit Go.Proofs.YtgjhabeoaejcdaaW.PrintWords Go.Proofs.YtgjhabeoaejcdaaW.PrintLast Go.Proofs.YtgjhabeoaejcdaaW.PrintMore
attribute [local go_sem] max2_int min2_int max_two min_two max_three min_three max_four min_four
set_option linter.unusedVariables false
set_option linter.unusedSimpArgs false
def hibernacleref12_zeros.l0 : Nat → Int → ByteArray → Int → Option (ByteArray)
  | 0, _, _, _ => none
  | k + 1, x0, x3, x4 => if x4 < x0 then (if x3.size + 1 ≤ 9223372036854775807 then (hibernacleref12_zeros.l0 k x0 (x3 ++ (⟨#[0]⟩ : ByteArray)) (wrap64 (x4 + 1))) else (none)) else (some x3)
def hibernacleref12_zeros.f (k : Nat) (a0 : Int) : Option (ByteArray) := hibernacleref12_zeros.l0 k a0 (⟨#[]⟩ : ByteArray) 0
theorem hibernacleref12_zeros.mono_l : ∀ k, (∀ y0 y1 y2, LeO (hibernacleref12_zeros.l0 k y0 y1 y2) (hibernacleref12_zeros.l0 (k + 1) y0 y1 y2))
  | 0 => fun _ _ _ r h => by simp [hibernacleref12_zeros.l0] at h
  | k + 1 => by
    have ih0 := hibernacleref12_zeros.mono_l k
    · intro y0 y1 y2
      unfold hibernacleref12_zeros.l0
      repeat' first
      | (with_reducible exact ih0 _ _ _)
      | (with_reducible exact LeO.refl _)
      | (with_reducible exact LeO.none _)
      | (with_reducible refine LeO.ite ?_ ?_)
      | (with_reducible refine LeO.bind ?_ (fun _ => ?_))
      | exact ih0 _ _ _
      | exact LeO.none _
      | refine LeO.ite ?_ ?_
      | refine LeO.bind ?_ (fun _ => ?_)
theorem hibernacleref12_zeros.mono : ∀ a0 k, LeO (hibernacleref12_zeros.f k a0) (hibernacleref12_zeros.f (k + 1) a0) := by
  intro a0 k
  have ih0 := hibernacleref12_zeros.mono_l k
  unfold hibernacleref12_zeros.f
  repeat' first
      | (with_reducible exact ih0 _ _ _)
      | (with_reducible exact LeO.refl _)
      | (with_reducible exact LeO.none _)
      | (with_reducible refine LeO.ite ?_ ?_)
      | (with_reducible refine LeO.bind ?_ (fun _ => ?_))
      | exact ih0 _ _ _
      | exact LeO.none _
      | refine LeO.ite ?_ ?_
      | refine LeO.bind ?_ (fun _ => ?_)
set_option maxHeartbeats 8000000 in
set_option maxRecDepth 100000 in
theorem hibernacleref12_zeros.calls (k : Nat) (a0 : Int) (r : ByteArray) (w : World) (h : hibernacleref12_zeros.f k a0 = some r) :
    Calls Try.prog 29 #[.int .i64 a0] w fun e w' => e = .returned (.string r) ∧ Drawn0 w w' := by
  have H : (hibernacleref12_zeros.l0 k a0 (⟨#[]⟩ : ByteArray) 0) = some r := h
  clear h
  have H' := Aside0.mk H
  clear H
  go_enter Try.func29, Try.ntmps29
  go_wp2
  go_loopg [3, 4] k (fun kq v3 v4 w' => ∃ (x3_1 : ByteArray) (x4_1 : Int), v3 = .string x3_1 ∧ v4 = .int .i64 x4_1 ∧ Aside0 (hibernacleref12_zeros.l0 kq a0 x3_1 x4_1 = some r) ∧ Aside0 (kq ≤ k) ∧ Drawn0 w w')
  case atStart => exact ⟨((⟨#[]⟩ : ByteArray)), (0), (by first | rfl | (simp; done) | (simp [*]; done)), (by first | rfl | (simp; done) | (simp [*]; done)), H', ⟨Nat.le_refl _⟩, by repeat (first | exact Drawn0.refl _ | apply Drawn0.step)⟩
  case round =>
    clear H'
    obtain ⟨x3_1, x4_1, rfl, rfl, HA, HK1, ⟨m1, rfl⟩⟩ := hrel
    cases gk with
    | zero => exact absurd HA.out (by simp [hibernacleref12_zeros.l0])
    | succ k1 =>
      have H := HA.out
      clear HA
      simp only [hibernacleref12_zeros.l0] at H
      by_cases c2 : x4_1 < a0
      · rw [if_pos c2] at H
        have c2b0 : decide (x4_1 < a0) = true := decide_eq_true c2
        clear c2
        by_cases c3 : x3_1.size + 1 ≤ 9223372036854775807
        · rw [if_pos c3] at H
          have c3b0 := eq_true c3
          have c3b1 : decide (x3_1.size + 1 ≤ 9223372036854775807) = true := decide_eq_true c3
          try have c3b2 : (9223372036854775807 < x3_1.size + 1) = False := eq_false (Nat.not_lt.2 c3)
          have H' := Aside0.mk H
          clear H
          go_wp2
          go_roundg k1
          case measure => have := HK1.out; omega
          case rel => exact ⟨(x3_1 ++ (⟨#[0]⟩ : ByteArray)), (wrap64 (x4_1 + 1)), (by first | rfl | (simp; done) | (simp [*]; done)), (by first | rfl | (simp; done) | (simp [*]; done)), H', ⟨by have := HK1.out; omega⟩, by repeat (first | exact Drawn0.refl _ | apply Drawn0.step)⟩
        · rw [if_neg c3] at H
          exact absurd H (by simp)
      · rw [if_neg c2] at H
        have c2b0 : decide (x4_1 < a0) = false := decide_eq_false c2
        clear c2
        obtain rfl := Option.some.inj H
        go_wp2
        go_ret
        exact ⟨by first | rfl | (simp; done) | (simp [*]; done), by repeat (first | exact Drawn0.refl _ | apply Drawn0.step)⟩
end Go.Proofs.Ytgjhabeoaejcdaa.P
end
section
namespace Go.Proofs.Ytgjhabeoaejcdaa.P
open Go.RowKit Go.Proofs.YtgjhabeoaejcdaaW.PrintWords Go.Proofs.YtgjhabeoaejcdaaW.PrintLast Go.Proofs.YtgjhabeoaejcdaaW.PrintMore
attribute [local go_sem] max2_int min2_int max_two min_two max_three min_three max_four min_four
set_option linter.unusedVariables false
set_option linter.unusedSimpArgs false
def hibernacleref01_Put.l0 : Nat → Int → Int → ByteArray → Int → Option (ByteArray)
  | 0, _, _, _, _ => none
  | k + 1, x0, x1, x5, x6 => if x6 < x1 then (if x6 < 8 then ((some (([(Int.tmod x0 256) % 256] : List Int) : List Int)).bind fun y162 => (if x5.size + (strOfNums y162).size ≤ 9223372036854775807 then (hibernacleref01_Put.l0 k (IntKind.u64.wrap (Int.tdiv x0 256)) x1 (x5 ++ (strOfNums y162)) (wrap64 (x6 + 1))) else (none))) else (some x5)) else (some x5)
def hibernacleref01_Put.f (k : Nat) (a0 : Int) (a1 : Int) : Option (ByteArray) := hibernacleref01_Put.l0 k a0 a1 (⟨#[]⟩ : ByteArray) 0
theorem hibernacleref01_Put.mono_l : ∀ k, (∀ y0 y1 y2 y3, LeO (hibernacleref01_Put.l0 k y0 y1 y2 y3) (hibernacleref01_Put.l0 (k + 1) y0 y1 y2 y3))
  | 0 => fun _ _ _ _ r h => by simp [hibernacleref01_Put.l0] at h
  | k + 1 => by
    have ih0 := hibernacleref01_Put.mono_l k
    · intro y0 y1 y2 y3
      unfold hibernacleref01_Put.l0
      repeat' first
      | (with_reducible exact ih0 _ _ _ _)
      | (with_reducible exact LeO.refl _)
      | (with_reducible exact LeO.none _)
      | (with_reducible refine LeO.ite ?_ ?_)
      | (with_reducible refine LeO.bind ?_ (fun _ => ?_))
      | exact ih0 _ _ _ _
      | exact LeO.none _
      | refine LeO.ite ?_ ?_
      | refine LeO.bind ?_ (fun _ => ?_)
theorem hibernacleref01_Put.mono : ∀ a0 a1 k, LeO (hibernacleref01_Put.f k a0 a1) (hibernacleref01_Put.f (k + 1) a0 a1) := by
  intro a0 a1 k
  have ih0 := hibernacleref01_Put.mono_l k
  unfold hibernacleref01_Put.f
  repeat' first
      | (with_reducible exact ih0 _ _ _ _)
      | (with_reducible exact LeO.refl _)
      | (with_reducible exact LeO.none _)
      | (with_reducible refine LeO.ite ?_ ?_)
      | (with_reducible refine LeO.bind ?_ (fun _ => ?_))
      | exact ih0 _ _ _ _
      | exact LeO.none _
      | refine LeO.ite ?_ ?_
      | refine LeO.bind ?_ (fun _ => ?_)
set_option maxHeartbeats 8000000 in
set_option maxRecDepth 100000 in
theorem hibernacleref01_Put.calls (k : Nat) (a0 : Int) (a1 : Int) (r : ByteArray) (w : World) (h : hibernacleref01_Put.f k a0 a1 = some r) :
    Calls Try.prog 33 #[.int .u64 a0, .int .i64 a1] w fun e w' => e = .returned (.string r) ∧ Below w.heap.size w w' := by
  have HB := Aside0.mk (Below.refl w.heap.size w)
  have H : (hibernacleref01_Put.l0 k a0 a1 (⟨#[]⟩ : ByteArray) 0) = some r := h
  clear h
  have H' := Aside0.mk H
  clear H
  go_enter Try.func33, Try.ntmps33
  go_wp2
  go_loopg [0, 5, 6] k (fun kq v0 v5 v6 w' => ∃ (x0_1 : Int) (x5_1 : ByteArray) (x6_1 : Int), v0 = .int .u64 x0_1 ∧ v5 = .string x5_1 ∧ v6 = .int .i64 x6_1 ∧ Aside0 (hibernacleref01_Put.l0 kq x0_1 a1 x5_1 x6_1 = some r) ∧ Aside0 (kq ≤ k) ∧ Aside0 (Below w.heap.size w w'))
  case atStart => exact ⟨(a0), ((⟨#[]⟩ : ByteArray)), (0), (by first | rfl | (simp; done) | (simp [*]; done)), (by first | rfl | (simp; done) | (simp [*]; done)), (by first | rfl | (simp; done) | (simp [*]; done)), H', ⟨Nat.le_refl _⟩, ⟨by repeat (first | (with_reducible first | exact HB.out | apply below_alloc | apply pw_below_drewN | apply below_drew1) | exact HB.out)⟩⟩
  case round =>
    clear H'
    try clear p2
    obtain ⟨x0_1, x5_1, x6_1, rfl, rfl, rfl, HA, HK1, HB⟩ := hrel
    cases gk with
    | zero => exact absurd HA.out (by simp [hibernacleref01_Put.l0])
    | succ k1 =>
      have H := HA.out
      clear HA
      simp only [hibernacleref01_Put.l0] at H
      by_cases c3 : x6_1 < a1
      · rw [if_pos c3] at H
        have c3b0 : decide (x6_1 < a1) = true := decide_eq_true c3
        clear c3
        by_cases c4 : x6_1 < 8
        · rw [if_pos c4] at H
          have c4b0 : decide (x6_1 < 8) = true := decide_eq_true c4
          clear c4
          obtain ⟨y162, hy162⟩ : ∃ y_ : List Int, y_ = (([(Int.tmod x0_1 256) % 256] : List Int)) := ⟨_, rfl⟩
          replace H : (if x5_1.size + (strOfNums y162).size ≤ 9223372036854775807 then (hibernacleref01_Put.l0 k1 (IntKind.u64.wrap (Int.tdiv x0_1 256)) a1 (x5_1 ++ (strOfNums y162)) (wrap64 (x6_1 + 1))) else (none)) = some r := by first | (rw [hy162]; with_reducible exact H) | (have H2_ := (Option.bind_some _ _).symm.trans H; rw [hy162]; with_reducible exact H2_) | (have H2_ := (Option.bind_some _ _).symm.trans H; with_reducible exact H2_) | with_reducible exact H | (rw [hy162]; exact H) | exact H
          have Ny162 := Aside0.mk hy162
          clear hy162
          by_cases c5 : x5_1.size + (strOfNums y162).size ≤ 9223372036854775807
          · rw [if_pos c5] at H
            have c5b0 := eq_true c5
            have c5b1 : decide (x5_1.size + (strOfNums y162).size ≤ 9223372036854775807) = true := decide_eq_true c5
            try have c5b2 : (9223372036854775807 < x5_1.size + (strOfNums y162).size) = False := eq_false (Nat.not_lt.2 c5)
            have H' := Aside0.mk H
            clear H
            go_wp2_with (first | ((with_reducible refine gate_dst (N := 20) rfl ?_); refine Kd.R_lit (Kd.int .u8) _ 5 ?hg (N := 20) ?hd (xs := ([(Int.tmod x0_1 256) % 256] : List Int)) (inner := [.int .u8 ((Int.tmod x0_1 256) % 256)]) (ok := fun _ => True) (okp := fun _ => True) ?hr ?hp (fun _ hk => hk) trivial (Below.refl _ _) (Nat.le_refl _) (by simp) ?_; (case hd => rfl); (case hg => rfl); (case hr => first | (go_simp; done) | (go_simp; rfl)); (case hp => exact (Reps.one (show Kd.M (Kd.int .u8) _ _ _ ((Int.tmod x0_1 256) % 256) [.int .u8 ((Int.tmod x0_1 256) % 256)] from rfl) (Reps.none _ _))); intro v163 w6 ho7 hb hg_ hnew_; clear hg_ hnew_; (first | rw [← Ny162.out] at ho7 | (simp only [Int.reduceToNat] at ho7; rw [← Ny162.out] at ho7)); have n0_ := Aside0.mk (Kd.R_lower ho7 (below_size (by repeat (first | (with_reducible first | exact HB.out | apply below_alloc | apply pw_below_drewN | apply below_drew1) | exact HB.out)))); have n1_ := Aside0.mk (below_step (by repeat (first | (with_reducible first | exact HB.out | apply below_alloc | apply pw_below_drewN | apply below_drew1) | exact HB.out)) hb); clear HB; have HO164 := n0_; have HB := n1_; clear n0_ n1_; clear hb ho7; have hcv8 := own_string (P := Try.prog) Try.underlying74 Try.underlying5 Try.underlying9 (Kd.own_of_R HO164.out)))
            go_roundg k1
            case measure => have := HK1.out; omega
            case rel => exact ⟨(IntKind.u64.wrap (Int.tdiv x0_1 256)), (x5_1 ++ (strOfNums y162)), (wrap64 (x6_1 + 1)), (by first | rfl | (simp; done) | (simp [*]; done)), (by first | rfl | (simp; done) | (simp [*]; done)), (by first | rfl | (simp; done) | (simp [*]; done)), H', ⟨by have := HK1.out; omega⟩, ⟨by repeat (first | (with_reducible first | exact HB.out | apply below_alloc | apply pw_below_drewN | apply below_drew1) | exact HB.out)⟩⟩
          · rw [if_neg c5] at H
            exact absurd H (by simp)
        · rw [if_neg c4] at H
          have c4b0 : decide (x6_1 < 8) = false := decide_eq_false c4
          clear c4
          obtain rfl := Option.some.inj H
          go_wp2
          go_ret
          exact ⟨by first | rfl | (simp [errW_none, errW_some] <;> rfl) | (simp [*, errW_none, errW_some] <;> rfl), by repeat (first | (with_reducible first | exact HB.out | apply below_alloc | apply pw_below_drewN | apply below_drew1) | exact HB.out)⟩
      · rw [if_neg c3] at H
        have c3b0 : decide (x6_1 < a1) = false := decide_eq_false c3
        clear c3
        obtain rfl := Option.some.inj H
        go_wp2
        go_ret
        exact ⟨by first | rfl | (simp [errW_none, errW_some] <;> rfl) | (simp [*, errW_none, errW_some] <;> rfl), by repeat (first | (with_reducible first | exact HB.out | apply below_alloc | apply pw_below_drewN | apply below_drew1) | exact HB.out)⟩
end Go.Proofs.Ytgjhabeoaejcdaa.P
end
section
namespace Go.Proofs.Ytgjhabeoaejcdaa.P
open Go.RowKit Go.Proofs.YtgjhabeoaejcdaaW.PrintWords Go.Proofs.YtgjhabeoaejcdaaW.PrintLast Go.Proofs.YtgjhabeoaejcdaaW.PrintMore
attribute [local go_sem] max2_int min2_int max_two min_two max_three min_three max_four min_four
set_option linter.unusedVariables false
set_option linter.unusedSimpArgs false
def hibernacleref12_text.l0 : Nat → ByteArray → Int → Int → List Int → ByteArray → Int → Int → Option (ByteArray)
  | 0, _, _, _, _, _, _, _ => none
  | k + 1, x3, x7, x8, x166000, x166001, x166002, x166003 => if x8 < x7 then (if 0 ≤ x8 then (if x8 < (x166000.length : Int) then ((hibernacleref01_Put.f k (IntKind.u64.wrap (rd x166000 x8)) 4).bind fun t167 => (if x3.size + t167.size ≤ 9223372036854775807 then (hibernacleref12_text.l0 k (x3 ++ t167) x7 (wrap64 (x8 + 1)) x166000 x166001 x166002 x166003) else (none))) else (none)) else (none)) else (some x3)
def hibernacleref12_text.f (k : Nat) (l0_0 : List Int) (a0_1 : ByteArray) (a0_2 : Int) (a0_3 : Int) : Option (ByteArray) := hibernacleref12_text.l0 k (⟨#[]⟩ : ByteArray) (l0_0.length : Int) 0 l0_0 a0_1 a0_2 a0_3
theorem hibernacleref12_text.mono_l : ∀ k, (∀ y0 y1 y2 y3 y4 y5 y6, LeO (hibernacleref12_text.l0 k y0 y1 y2 y3 y4 y5 y6) (hibernacleref12_text.l0 (k + 1) y0 y1 y2 y3 y4 y5 y6))
  | 0 => fun _ _ _ _ _ _ _ r h => by simp [hibernacleref12_text.l0] at h
  | k + 1 => by
    have ih0 := hibernacleref12_text.mono_l k
    · intro y0 y1 y2 y3 y4 y5 y6
      unfold hibernacleref12_text.l0
      repeat' first
      | (with_reducible exact ih0 _ _ _ _ _ _ _)
      | (with_reducible exact hibernacleref01_Put.mono _ _ _)
      | (with_reducible exact LeO.refl _)
      | (with_reducible exact LeO.none _)
      | (with_reducible refine LeO.ite ?_ ?_)
      | (with_reducible refine LeO.bind ?_ (fun _ => ?_))
      | exact ih0 _ _ _ _ _ _ _
      | exact hibernacleref01_Put.mono _ _ _
      | exact LeO.none _
      | refine LeO.ite ?_ ?_
      | refine LeO.bind ?_ (fun _ => ?_)
theorem hibernacleref12_text.mono : ∀ a0 a1 a2 a3 k, LeO (hibernacleref12_text.f k a0 a1 a2 a3) (hibernacleref12_text.f (k + 1) a0 a1 a2 a3) := by
  intro a0 a1 a2 a3 k
  have ih0 := hibernacleref12_text.mono_l k
  unfold hibernacleref12_text.f
  repeat' first
      | (with_reducible exact ih0 _ _ _ _ _ _ _)
      | (with_reducible exact hibernacleref01_Put.mono _ _ _)
      | (with_reducible exact LeO.refl _)
      | (with_reducible exact LeO.none _)
      | (with_reducible refine LeO.ite ?_ ?_)
      | (with_reducible refine LeO.bind ?_ (fun _ => ?_))
      | exact ih0 _ _ _ _ _ _ _
      | exact hibernacleref01_Put.mono _ _ _
      | exact LeO.none _
      | refine LeO.ite ?_ ?_
      | refine LeO.bind ?_ (fun _ => ?_)
set_option maxHeartbeats 8000000 in
set_option maxRecDepth 100000 in
theorem hibernacleref12_text.calls (k : Nat) (A0_0 : Option Addr) (c0_0 : Nat) (l0_0 : List Int) (a0_1 : ByteArray) (a0_2 : Int) (a0_3 : Int) (r : ByteArray) (w : World) (hr0_0 : Kd.C (Kd.int .u32) w A0_0 l0_0.length l0_0) (hc0_0 : l0_0.length ≤ c0_0) (h : hibernacleref12_text.f k l0_0 a0_1 a0_2 a0_3 = some r) :
    Calls Try.prog 28 #[.agg #[.slice A0_0 l0_0.length c0_0, .string a0_1, .int .i64 a0_2, .int .u32 a0_3]] w fun e w' => e = .returned (.string r) ∧ Below w.heap.size w w' := by
  have hu25 := Try.underlying25
  have HR0_0 := Aside0.mk hr0_0
  have HC0_0 := Aside0.mk hc0_0
  clear hr0_0 hc0_0
  have HB := Aside0.mk (Below.refl w.heap.size w)
  have H : (hibernacleref12_text.l0 k (⟨#[]⟩ : ByteArray) (l0_0.length : Int) 0 l0_0 a0_1 a0_2 a0_3) = some r := h
  clear h
  have H' := Aside0.mk H
  clear H
  go_enter Try.func28, Try.ntmps28
  go_wp2_with (first | ((with_reducible refine gate_dst (N := 1) rfl ?_); refine box_event ?hg (N := 1) ?hd (cs := #[.slice A0_0 l0_0.length c0_0, .string a0_1, .int .i64 a0_2, .int .u32 a0_3]) (t := 25) ?hr ?_; (case hd => rfl); (case hg => rfl); (case hr => first | (go_simp; done) | (go_simp; rfl)); intro gb165 hg w2 hbox hb; have n0_ := Aside0.mk (below_step (by repeat (first | (with_reducible first | exact HB.out | apply below_alloc | apply pw_below_drewN | apply below_drew1) | exact HB.out)) hb); have n1_ := Aside0.mk (hbox); have n2_ := Aside0.mk ((by rw [hg]; exact (below_size (by repeat (first | (with_reducible first | exact HB.out | apply below_alloc | apply pw_below_drewN | apply below_drew1) | exact HB.out))) : w.heap.size ≤ gb165)); have n3_ := Aside0.mk ((by rw [hg]; exact (below_size (by repeat (first | (with_reducible first | exact HB.out | apply below_alloc | apply pw_below_drewN | apply below_drew1) | exact HB.out))) : w.heap.size ≤ gb165)); clear HB; have HB := n0_; have BK165 := n1_; have GW165 := n2_; have GE165 := n3_; clear n0_ n1_ n2_ n3_; clear hb hbox hg; have hcz3_0 : w2.cell? ⟨gb165, 0, none⟩ = some (.slice A0_0 l0_0.length c0_0) := (blk_cell BK165.out 0).trans rfl; have hcz3_1 : w2.cell? ⟨gb165, 1, none⟩ = some (.string a0_1) := (blk_cell BK165.out 1).trans rfl; have hcz3_2 : w2.cell? ⟨gb165, 2, none⟩ = some (.int .i64 a0_2) := (blk_cell BK165.out 2).trans rfl; have hcz3_3 : w2.cell? ⟨gb165, 3, none⟩ = some (.int .u32 a0_3) := (blk_cell BK165.out 3).trans rfl; have hfz3_0 := blk_frozen BK165.out 0; have hfz3_1 := blk_frozen BK165.out 1; have hfz3_2 := blk_frozen BK165.out 2; have hfz3_3 := blk_frozen BK165.out 3))
  go_loopg [3, 8] k (fun kq v3 v8 w' => ∃ (x3_1 : ByteArray) (x8_1 : Int), v3 = .string x3_1 ∧ v8 = .int .i64 x8_1 ∧ Aside0 (hibernacleref12_text.l0 kq x3_1 (l0_0.length : Int) x8_1 l0_0 a0_1 a0_2 a0_3 = some r) ∧ Aside0 (kq ≤ k) ∧ Aside0 (w'.heap[gb165]? = some (.cells #[(.slice A0_0 l0_0.length c0_0), .string a0_1, .int .i64 a0_2, .int .u32 a0_3] 25 (0, 0))) ∧ Aside0 (Below w.heap.size w w'))
  case atStart => exact ⟨((⟨#[]⟩ : ByteArray)), (0), (by first | rfl | (simp; done) | (simp [*]; done)), (by first | rfl | (simp; done) | (simp [*]; done)), H', ⟨Nat.le_refl _⟩, ⟨by (with_reducible repeat (first | refine blk_drewN ?_ _ | refine blk_drew ?_ | refine blk_alloc ?_ _)); exact BK165.out⟩, ⟨by repeat (first | (with_reducible first | exact HB.out | apply below_alloc | apply pw_below_drewN | apply below_drew1 | refine below_set ?_ GE165.out) | exact HB.out)⟩⟩
  case round =>
    clear H'
    try clear c2
    try clear p2
    try clear hcz3_0
    try clear hcz3_1
    try clear hcz3_2
    try clear hcz3_3
    try clear hfz3_0
    try clear hfz3_1
    try clear hfz3_2
    try clear hfz3_3
    obtain ⟨x3_1, x8_1, rfl, rfl, HA, HK1, BK165, HB⟩ := hrel
    cases gk with
    | zero => exact absurd HA.out (by simp [hibernacleref12_text.l0])
    | succ k1 =>
      have H := HA.out
      clear HA
      simp only [hibernacleref12_text.l0] at H
      by_cases c4 : x8_1 < (l0_0.length : Int)
      · rw [if_pos c4] at H
        have c4b0 : decide (x8_1 < (l0_0.length : Int)) = true := decide_eq_true c4
        clear c4
        by_cases c5 : 0 ≤ x8_1
        · rw [if_pos c5] at H
          have c5b0 : decide (0 ≤ x8_1) = true := decide_eq_true c5
          clear c5
          by_cases c6 : x8_1 < (l0_0.length : Int)
          · rw [if_pos c6] at H
            have c6b0 : decide (x8_1 < (l0_0.length : Int)) = true := decide_eq_true c6
            clear c6
            replace H := Option.bind_eq_some_iff.mp H
            obtain ⟨t167, A70, H⟩ := H
            replace H : (if x3_1.size + t167.size ≤ 9223372036854775807 then (hibernacleref12_text.l0 k1 (x3_1 ++ t167) (l0_0.length : Int) (wrap64 (x8_1 + 1)) l0_0 a0_1 a0_2 a0_3) else (none)) = some r := H
            have A7 := Aside0.mk A70
            clear A70
            by_cases c8 : x3_1.size + t167.size ≤ 9223372036854775807
            · rw [if_pos c8] at H
              have c8b0 := eq_true c8
              have c8b1 : decide (x3_1.size + t167.size ≤ 9223372036854775807) = true := decide_eq_true c8
              try have c8b2 : (9223372036854775807 < x3_1.size + t167.size) = False := eq_false (Nat.not_lt.2 c8)
              have H' := Aside0.mk H
              clear H
              have hcz9_0 : wr.cell? ⟨gb165, 0, none⟩ = some (.slice A0_0 l0_0.length c0_0) := (blk_cell BK165.out 0).trans rfl
              have hcz9_1 : wr.cell? ⟨gb165, 1, none⟩ = some (.string a0_1) := (blk_cell BK165.out 1).trans rfl
              have hcz9_2 : wr.cell? ⟨gb165, 2, none⟩ = some (.int .i64 a0_2) := (blk_cell BK165.out 2).trans rfl
              have hcz9_3 : wr.cell? ⟨gb165, 3, none⟩ = some (.int .u32 a0_3) := (blk_cell BK165.out 3).trans rfl
              have hfz9_0 := blk_frozen BK165.out 0
              have hfz9_1 := blk_frozen BK165.out 1
              have hfz9_2 := blk_frozen BK165.out 2
              have hfz9_3 := blk_frozen BK165.out 3
              have p166 : 0 ≤ (x8_1 : Int) := of_decide_eq_true (by first | (with_reducible assumption) | assumption)
              have q166 : x8_1 < (l0_0.length : Int) := of_decide_eq_true (by first | (with_reducible assumption) | assumption)
              obtain ⟨ad166, e166, hx166_0⟩ := Kd.at_int HR0_0.out x8_1 p166 q166
              cases e166
              replace hx166_0 := (HB.out.cell (World.block_lt_of_cell? w _ hx166_0)).trans hx166_0
              replace p166 := eq_true p166
              replace q166 := eq_true q166
              go_wp2_with (first | ((with_reducible refine gate_callee (f := 33) rfl ?_); refine goesL_ (some 18) rfl rfl Try.func33 (by kernel_rfl) rfl #[.int .u64 (IntKind.u64.wrap (rd l0_0 x8_1)), .int .i64 4] rfl (by (try simp only [List.map_toArray, List.map_cons, List.map_nil]); first | done | rfl | (simp only [List.length_drop, List.length_take]; rfl)) ?_; (with_reducible refine (hibernacleref01_Put.calls k1 (IntKind.u64.wrap (rd l0_0 x8_1)) 4 t167 _ A7.out).mono ?_); rintro e w10 ⟨rfl, hb⟩; refine ⟨_, rfl, ?_⟩; have n0_ := Aside0.mk (blk_below (g := gb165) (o := .cells #[.slice (some ad166) l0_0.length c0_0, .string a0_1, .int .i64 a0_2, .int .u32 a0_3] 25 (0, 0)) (by (with_reducible repeat (first | refine blk_drewN ?_ _ | refine blk_drew ?_ | refine blk_alloc ?_ _)); exact BK165.out) hb); have n1_ := Aside0.mk (below_step (by repeat (first | (with_reducible first | exact HB.out | apply below_alloc | apply pw_below_drewN | apply below_drew1 | refine below_set ?_ GE165.out) | exact HB.out)) hb); clear BK165; clear HB; have BK165 := n0_; have HB := n1_; clear n0_ n1_; (try clear hb); (try clear hb2); (try clear hk); (try clear hi)))
              go_roundg k1
              case measure => have := HK1.out; omega
              case rel => exact ⟨(x3_1 ++ t167), (wrap64 (x8_1 + 1)), (by first | rfl | (simp; done) | (simp [*]; done)), (by first | rfl | (simp; done) | (simp [*]; done)), H', ⟨by have := HK1.out; omega⟩, ⟨by (with_reducible repeat (first | refine blk_drewN ?_ _ | refine blk_drew ?_ | refine blk_alloc ?_ _)); exact BK165.out⟩, ⟨by repeat (first | (with_reducible first | exact HB.out | apply below_alloc | apply pw_below_drewN | apply below_drew1 | refine below_set ?_ GE165.out) | exact HB.out)⟩⟩
            · rw [if_neg c8] at H
              exact absurd H (by simp)
          · rw [if_neg c6] at H
            exact absurd H (by simp)
        · rw [if_neg c5] at H
          exact absurd H (by simp)
      · rw [if_neg c4] at H
        have c4b0 : decide (x8_1 < (l0_0.length : Int)) = false := decide_eq_false c4
        clear c4
        obtain rfl := Option.some.inj H
        go_wp2
        go_ret
        exact ⟨by first | rfl | (simp [errW_none, errW_some] <;> rfl) | (simp [*, errW_none, errW_some] <;> rfl), by repeat (first | (with_reducible first | exact HB.out | apply below_alloc | apply pw_below_drewN | apply below_drew1 | refine below_set ?_ GE165.out) | exact HB.out)⟩
end Go.Proofs.Ytgjhabeoaejcdaa.P
end
section
namespace Go.Proofs.Ytgjhabeoaejcdaa.Q
open Go.RowKit Go.Proofs.Ytgjhabeoaejcdaa.P Go.Proofs.YtgjhabeoaejcdaaW.PrintWords Go.Proofs.YtgjhabeoaejcdaaW.PrintLast Go.Proofs.YtgjhabeoaejcdaaW.PrintMore
end Go.Proofs.Ytgjhabeoaejcdaa.Q
end
section
namespace Go.Proofs.Ytgjhabeoaejcdaa.Q
open Go.RowKit Go.Proofs.Ytgjhabeoaejcdaa.P Go.Proofs.YtgjhabeoaejcdaaW.PrintWords Go.Proofs.YtgjhabeoaejcdaaW.PrintLast Go.Proofs.YtgjhabeoaejcdaaW.PrintMore
def num (s : ByteArray) (i n : Nat) : Int := ofB (bytesOf (s.extract i (i + n)))
theorem num_range (s : ByteArray) (i n : Nat) (hn : n ≤ 4) : 0 ≤ num s i n ∧ num s i n < 4294967296 := by
  have h := ofB_range _ (bytesOf_range (s.extract i (i + n)))
  have hl : (bytesOf (s.extract i (i + n))).length ≤ 4 := by rw [bytesOf_length, ByteArray.size_extract]; omega
  have hp : (256 : Int) ^ (bytesOf (s.extract i (i + n))).length ≤ 4294967296 := by
    generalize (bytesOf (s.extract i (i + n))).length = m at hl
    obtain rfl | rfl | rfl | rfl | rfl : m = 0 ∨ m = 1 ∨ m = 2 ∨ m = 3 ∨ m = 4 := by omega
    all_goals decide
  unfold num
  omega
theorem num_range2 (s : ByteArray) (i : Nat) : 0 ≤ num s i 2 ∧ num s i 2 < 65536 := by
  have h := ofB_range _ (bytesOf_range (s.extract i (i + 2)))
  have hl : (bytesOf (s.extract i (i + 2))).length ≤ 2 := by rw [bytesOf_length, ByteArray.size_extract]; omega
  have hp : (256 : Int) ^ (bytesOf (s.extract i (i + 2))).length ≤ 65536 := by
    generalize (bytesOf (s.extract i (i + 2))).length = m at hl
    obtain rfl | rfl | rfl : m = 0 ∨ m = 1 ∨ m = 2 := by omega
    all_goals decide
  unfold num
  omega
theorem of1_eq (s : ByteArray) (hs : s.size ≤ 1000000) (i n : Nat) (hn : n ≤ 4) (h : i + n ≤ s.size) : exe_Of_1.f i n s = some (num s i n) := by
  unfold exe_Of_1.f
  rw [if_pos ⟨by omega, by omega, by omega, by omega, by omega⟩]
  rfl
theorem ref_get_loop (s : ByteArray) (hs : s.size ≤ 8) : ∀ (i : Nat), i ≤ s.size →
    Ev (fun k => hibernacleref01_Get.l0 k s (ofB ((bytesOf s).drop i)) ((i : Int) - 1)) (ofB (bytesOf s)) := by
  intro i
  induction i with
  | zero =>
    intro _
    refine Ev.step (f := fun _ => some (ofB (bytesOf s))) (fun k => ?_) (Ev.now _)
    simp only [hibernacleref01_Get.l0]; rw [if_neg (by omega), List.drop_zero]
  | succ i ih =>
    intro hi
    have e1 : wrap64 (((i + 1 : Nat) : Int) - 1 - 1) = (i : Int) - 1 := by rw [wrap64_id (by omega) (by omega)]; omega
    have e2 : ((i + 1 : Nat) : Int) - 1 = (i : Int) := by omega
    have hl : ((bytesOf s).drop (i + 1)).length ≤ 7 := by rw [List.length_drop, bytesOf_length]; omega
    have hr := ofB_range ((bytesOf s).drop (i + 1)) fun x hx => bytesOf_range s x (List.mem_of_mem_drop hx)
    have hp : (256 : Int) ^ ((bytesOf s).drop (i + 1)).length ≤ 72057594037927936 := by
      generalize ((bytesOf s).drop (i + 1)).length = m at hl
      obtain rfl | rfl | rfl | rfl | rfl | rfl | rfl | rfl : m = 0 ∨ m = 1 ∨ m = 2 ∨ m = 3 ∨ m = 4 ∨ m = 5 ∨ m = 6 ∨ m = 7 := by omega
      all_goals decide
    have hb := byte_at s i (by omega)
    have ed : ofB ((bytesOf s).drop i) = ofB ((bytesOf s).drop (i + 1)) * 256 + bt s (i : Int) := by
      rw [drop_getD (bytesOf s) i (by rw [bytesOf_length]; omega), bt_getD]
      simp only [ofB]; omega
    refine Ev.step (f := fun k => hibernacleref01_Get.l0 k s (ofB ((bytesOf s).drop i)) ((i : Int) - 1)) (fun k => ?_) (ih (by omega))
    simp only [hibernacleref01_Get.l0]
    rw [e1, e2, if_pos (by omega), if_pos (by omega), if_pos (by omega), if_pos (by omega), u64_same (x := ofB ((bytesOf s).drop (i + 1)) * 256) (by omega) (by omega), u64_same hb.1 (by omega), u64_same (by omega) (by omega), ed]
theorem ref_get (s : ByteArray) (hs : s.size ≤ 8) : Ev (fun k => hibernacleref01_Get.f k s) (ofB (bytesOf s)) := by
  have := ref_get_loop s hs s.size (Nat.le_refl _)
  unfold hibernacleref01_Get.f
  rw [wrap64_id (n := (s.size : Int) - 1) (by omega) (by omega)]
  rw [List.drop_of_length_le (by rw [bytesOf_length]; omega)] at this
  exact this
theorem ref_num (s : ByteArray) (i n : Nat) (hn : n ≤ 8) : Ev (fun k => hibernacleref01_Get.f k (s.extract i (i + n))) (num s i n) :=
  ref_get _ (by rw [ByteArray.size_extract]; omega)
def marked (s : ByteArray) : Prop := s.extract 0 (min s.size 4) = (⟨#[104, 105, 98, 120]⟩ : ByteArray).extract 0 (min s.size 4)
instance (s : ByteArray) : Decidable (marked s) := by unfold marked; infer_instance
def wordsOf (s : ByteArray) (n : Nat) : List Int := (List.range n).map fun i => num s (14 + 4 * i) 4
def ofFile (s : ByteArray) : List Int × ByteArray × Int × Int × Int :=
  if marked s then
    if s.size < 14 then ([], ⟨#[]⟩, 0, 0, 4)
    else if (s.size : Int) < 14 + 4 * num s 8 2 + num s 10 2 then ([], ⟨#[]⟩, 0, 0, 4)
    else if (s.size : Int) > 14 + 4 * num s 8 2 + num s 10 2 then ([], ⟨#[]⟩, 0, 0, 3)
    else if chk (wordsOf s (num s 8 2).toNat) (s.extract (14 + 4 * (num s 8 2).toNat) s.size) (num s 12 2) (num s 4 4) = 0 then
      (wordsOf s (num s 8 2).toNat, s.extract (14 + 4 * (num s 8 2).toNat) s.size, num s 12 2, num s 4 4, 0)
    else ([], ⟨#[]⟩, 0, 0, 3)
  else ([], ⟨#[]⟩, 0, 0, 3)
theorem u32_same {x : Int} (h : 0 ≤ x ∧ x < 4294967296) : IntKind.u32.wrap x = x := u32_id h.1 h.2
theorem toList_iff (a b : ByteArray) : a.toList = b.toList ↔ a = b := by
  constructor
  · intro h
    rw [ByteArray.toList_eq, ByteArray.toList_eq] at h
    exact ByteArray.ext (Array.toList_inj.mp h)
  · intro h; rw [h]
theorem words_snoc (s : ByteArray) (i : Nat) : wordsOf s (i + 1) = wordsOf s i ++ [num s (14 + 4 * i) 4] := by
  unfold wordsOf; rw [List.range_succ, List.map_append]; rfl
theorem words_length (s : ByteArray) (i : Nat) : (wordsOf s i).length = i := by simp [wordsOf]
theorem exe_of_loop (s : ByteArray) (hs : s.size ≤ 100000) (n : Nat) (hn : 14 + 4 * n ≤ s.size) (x : Int) (d : ByteArray) (hd : d.size ≤ 100000) (c e : Int) (he : 0 ≤ e) (r : List Int × ByteArray × Int × Int × Int)
    (hr : (if (s.size : Int) > x then (([] : List Int), (⟨#[]⟩ : ByteArray), (0 : Int), (0 : Int), (3 : Int)) else if chk (wordsOf s n) d c e = 0 then (wordsOf s n, d, c, e, 0) else ([], ⟨#[]⟩, 0, 0, 3)) = r) :
    ∀ (m i : Nat), i + m = n → Ev (fun k => exe_Of.l0 k x n i s (wordsOf s i) d c e) r := by
  intro m
  induction m with
  | zero =>
    intro i hi
    obtain rfl : i = n := by omega
    refine Ev.step (f := fun _ => some r) (fun k => ?_) (Ev.now _)
    simp only [exe_Of.l0]
    rw [if_neg (by omega), exe_check _ d c e (by omega) he, Option.bind_some, ← hr]
    split
    · rfl
    · split <;> rfl
  | succ m ih =>
    intro i hi
    have e1 : wrap64 ((i : Int) + 1) = ((i + 1 : Nat) : Int) := by rw [wrap64_id (by omega) (by omega)]; omega
    have e4 : wrap64 (4 * (i : Int)) = ((4 * i : Nat) : Int) := by rw [wrap64_id (by omega) (by omega)]; omega
    have e5 : wrap64 (14 + ((4 * i : Nat) : Int)) = ((14 + 4 * i : Nat) : Int) := by rw [wrap64_id (by omega) (by omega)]; omega
    have ho := of1_eq s (by omega) (14 + 4 * i) 4 (by omega) (by omega)
    rw [show ((4 : Nat) : Int) = 4 from rfl] at ho
    refine Ev.step (f := fun k => exe_Of.l0 k x n ((i + 1 : Nat) : Int) s (wordsOf s (i + 1)) d c e) (fun k => ?_) (ih (i + 1) (by omega))
    simp only [exe_Of.l0, e1, e4, e5, ho, Option.bind_some]
    rw [if_pos (by omega), if_pos (by rw [words_length]; omega), u32_same (num_range s _ 4 (by omega)), ← words_snoc]
theorem exe_of (s : ByteArray) (hs : s.size ≤ 100000) : Ev (fun k => exe_Of.f k s) (ofFile s) := by
  have em : mn (s.size : Int) 4 = ((min s.size 4 : Nat) : Int) := by unfold mn; split <;> omega
  unfold exe_Of.f
  simp only [em, Int.toNat_natCast, toList_iff]
  refine Ev.congr (fun k => if_pos (by omega)) ?_
  refine Ev.congr (fun k => if_pos (by omega)) ?_
  refine Ev.congr (fun k => if_pos (by omega)) ?_
  unfold ofFile
  by_cases hm : marked s
  · rw [if_pos hm]
    refine Ev.congr (fun k => if_pos hm) ?_
    by_cases h14 : s.size < 14
    · rw [if_pos h14]
      exact Ev.congr (fun k => if_pos (by omega)) (Ev.now _)
    · rw [if_neg h14]
      refine Ev.congr (fun k => if_neg (by omega)) ?_
      have o8 := of1_eq s (by omega) 8 2 (by omega) (by omega)
      have o10 := of1_eq s (by omega) 10 2 (by omega) (by omega)
      have o4 := of1_eq s (by omega) 4 4 (by omega) (by omega)
      have o12 := of1_eq s (by omega) 12 2 (by omega) (by omega)
      simp only [show ((8 : Nat) : Int) = 8 from rfl, show ((2 : Nat) : Int) = 2 from rfl, show ((10 : Nat) : Int) = 10 from rfl, show ((4 : Nat) : Int) = 4 from rfl, show ((12 : Nat) : Int) = 12 from rfl] at o8 o10 o4 o12
      simp only [o8, o10, o4, o12, Option.bind_some]
      have r8 := num_range2 s 8
      have r10 := num_range2 s 10
      have r12 := num_range2 s 12
      have r4 := num_range s 4 4 (by omega)
      obtain ⟨n, hn⟩ := Int.eq_ofNat_of_zero_le r8.1
      obtain ⟨m, hm2⟩ := Int.eq_ofNat_of_zero_le r10.1
      rw [hn] at r8
      rw [hm2] at r10
      simp only [hn, hm2]
      clear o8 o10 o4 o12 r12 hn hm2
      have e1 : wrap64 (4 * (n : Int)) = ((4 * n : Nat) : Int) := by rw [wrap64_id (by omega) (by omega)]; omega
      have e2 : wrap64 (14 + ((4 * n : Nat) : Int)) = ((14 + 4 * n : Nat) : Int) := by rw [wrap64_id (by omega) (by omega)]; omega
      have e3 : wrap64 (((14 + 4 * n : Nat) : Int) + (m : Int)) = ((14 + 4 * n + m : Nat) : Int) := by rw [wrap64_id (by omega) (by omega)]; omega
      have e4 : wrap64 (((14 + 4 * n + m : Nat) : Int) - (m : Int)) = ((14 + 4 * n : Nat) : Int) := by rw [wrap64_id (by omega) (by omega)]; omega
      simp only [e1, e2, e3, e4, Int.toNat_natCast]
      by_cases hlt : (s.size : Int) < 14 + 4 * (n : Int) + (m : Int)
      · rw [if_pos hlt]
        exact Ev.congr (fun k => if_pos (by omega)) (Ev.now _)
      · rw [if_neg hlt]
        refine Ev.congr (fun k => if_neg (by omega)) ?_
        refine Ev.congr (fun k => if_pos (by omega)) ?_
        refine Ev.congr (fun k => if_pos (by omega)) ?_
        refine Ev.congr (fun k => if_pos (by omega)) ?_
        have hc : strings_Clone.f (s.extract (14 + 4 * n) (14 + 4 * n + m)) = some (s.extract (14 + 4 * n) (14 + 4 * n + m)) := by
          unfold strings_Clone.f; rw [if_pos (by rw [ByteArray.size_extract]; omega)]
        simp only [hc, Option.bind_some, u32_same r4]
        refine exe_of_loop s hs n (by omega) _ _ (by rw [ByteArray.size_extract]; omega) _ _ r4.1 _ ?_ n 0 (Nat.zero_add _)
        by_cases hgt : (s.size : Int) > 14 + 4 * (n : Int) + (m : Int)
        · rw [if_pos hgt, if_pos (by omega)]
        · rw [if_neg hgt, if_neg (by omega), show 14 + 4 * n + m = s.size by omega]
  · rw [if_neg hm]
    exact Ev.congr (fun k => if_neg hm) (Ev.now _)
end Go.Proofs.Ytgjhabeoaejcdaa.Q
end
section
namespace Go.Proofs.Ytgjhabeoaejcdaa.Q
open Go.RowKit Go.Proofs.Ytgjhabeoaejcdaa.P Go.Proofs.YtgjhabeoaejcdaaW.PrintWords Go.Proofs.YtgjhabeoaejcdaaW.PrintLast Go.Proofs.YtgjhabeoaejcdaaW.PrintMore
theorem bytesOf_inj {a b : ByteArray} (h : bytesOf a = bytesOf b) : a = b := by rw [← str_bytesOf a, ← str_bytesOf b, h]
theorem bytesOf_extract (s : ByteArray) (i j : Nat) : bytesOf (s.extract i j) = ((bytesOf s).drop i).take (j - i) := by
  unfold bytesOf
  rw [ByteArray.data_extract, Array.toList_extract, List.extract_eq_take_drop, List.map_take, List.map_drop]
theorem hibx_bytes : bytesOf (⟨#[104, 105, 98, 120]⟩ : ByteArray) = [104, 105, 98, 120] := rfl
theorem marked_iff (s : ByteArray) : marked s ↔ ∀ i, i < min s.size 4 → bt s (i : Int) = bt (⟨#[104, 105, 98, 120]⟩ : ByteArray) (i : Int) := by
  have hl : (bytesOf s).length = s.size := bytesOf_length s
  constructor
  · intro h i hi
    have h2 := congrArg bytesOf h
    rw [bytesOf_extract, bytesOf_extract] at h2
    simp only [List.drop_zero, Nat.sub_zero] at h2
    have h3 := congrArg (fun l : List Int => l.getD i 0) h2
    simp only [List.getD_eq_getElem?_getD, List.getElem?_take] at h3
    rw [if_pos hi, if_pos hi] at h3
    rw [bt_getD, bt_getD, List.getD_eq_getElem?_getD, List.getD_eq_getElem?_getD]
    exact h3
  · intro h
    unfold marked
    apply bytesOf_inj
    rw [bytesOf_extract, bytesOf_extract]
    simp only [List.drop_zero, Nat.sub_zero]
    apply List.ext_getElem?
    intro i
    rw [List.getElem?_take, List.getElem?_take]
    split
    · rename_i hi
      have := h i hi
      rw [bt_getD, bt_getD, List.getD_eq_getElem?_getD, List.getD_eq_getElem?_getD] at this
      have h1 : i < (bytesOf s).length := by omega
      have h2 : i < (bytesOf (⟨#[104, 105, 98, 120]⟩ : ByteArray)).length := by rw [hibx_bytes]; simp; omega
      rw [List.getElem?_eq_getElem h1, List.getElem?_eq_getElem h2] at this ⊢
      exact congrArg some this
    · rfl
theorem ref_of_words (s : ByteArray) (hs : s.size ≤ 100000) (n : Nat) (hn : 14 + 4 * n ≤ s.size) (d : ByteArray) (hd : d.size ≤ 100000) (c e : Int) (he0 : 0 ≤ e) (he1 : e < 4294967296) :
    ∀ (m i : Nat), i + m = n → Ev (fun k => hibernacleref12_Of.l1 k s n i (⟨#[]⟩ : ByteArray) 0 0 (wordsOf s i) d c e) (if chk (wordsOf s n) d c e = 0 then (wordsOf s n, d, c, e, 0) else ([], ⟨#[]⟩, 0, 0, 3)) := by
  intro m
  induction m with
  | zero =>
    intro i hi
    obtain rfl : i = n := by omega
    refine Ev.step (f := fun k => (hibernacleref12_Check.f k (wordsOf s i) d c e).bind fun t => if t = 0 then some (wordsOf s i, d, c, e, 0) else some ([], ⟨#[]⟩, 0, 0, 3)) (fun k => ?_) ?_
    · simp only [hibernacleref12_Of.l1]
      rw [if_neg (by omega)]
    · refine Ev.bind (ref_check _ d c e (by omega) he0 he1) ?_
      by_cases h : chk (wordsOf s i) d c e = 0
      · simp only [if_pos h]; exact Ev.now _
      · simp only [if_neg h]; exact Ev.now _
  | succ m ih =>
    intro i hi
    have e1 : wrap64 ((i : Int) + 1) = ((i + 1 : Nat) : Int) := by rw [wrap64_id (by omega) (by omega)]; omega
    have e4 : wrap64 (4 * (i : Int)) = ((4 * i : Nat) : Int) := by rw [wrap64_id (by omega) (by omega)]; omega
    have e5 : wrap64 (14 + ((4 * i : Nat) : Int)) = ((14 + 4 * i : Nat) : Int) := by rw [wrap64_id (by omega) (by omega)]; omega
    have e6 : wrap64 (18 + ((4 * i : Nat) : Int)) = ((14 + 4 * i + 4 : Nat) : Int) := by rw [wrap64_id (by omega) (by omega)]; omega
    refine Ev.step (f := fun k => (hibernacleref01_Get.f k (s.extract (14 + 4 * i) (14 + 4 * i + 4))).bind fun t => if (wordsOf s i).length < 35184372088832 then hibernacleref12_Of.l1 k s n ((i + 1 : Nat) : Int) (⟨#[]⟩ : ByteArray) 0 0 (wordsOf s i ++ [IntKind.u32.wrap t]) d c e else none) (fun k => ?_) ?_
    · simp only [hibernacleref12_Of.l1, e1, e4, e5, e6, Int.toNat_natCast]
      rw [if_pos (by omega), if_pos (by omega), if_pos (by omega), if_pos (by omega)]
    · refine Ev.bind (ref_num s (14 + 4 * i) 4 (by omega)) ?_
      refine Ev.congr (fun k => if_pos (by rw [words_length]; omega)) ?_
      rw [u32_same (num_range s _ 4 (by omega)), ← words_snoc]
      exact ih (i + 1) (by omega)
def tailOf (s : ByteArray) : List Int × ByteArray × Int × Int × Int :=
  if s.size < 14 then ([], ⟨#[]⟩, 0, 0, 4)
  else if (s.size : Int) < 14 + 4 * num s 8 2 + num s 10 2 then ([], ⟨#[]⟩, 0, 0, 4)
  else if (s.size : Int) > 14 + 4 * num s 8 2 + num s 10 2 then ([], ⟨#[]⟩, 0, 0, 3)
  else if chk (wordsOf s (num s 8 2).toNat) (s.extract (14 + 4 * (num s 8 2).toNat) s.size) (num s 12 2) (num s 4 4) = 0 then
    (wordsOf s (num s 8 2).toNat, s.extract (14 + 4 * (num s 8 2).toNat) s.size, num s 12 2, num s 4 4, 0)
  else ([], ⟨#[]⟩, 0, 0, 3)
theorem ofFile_eq (s : ByteArray) : ofFile s = if marked s then tailOf s else ([], ⟨#[]⟩, 0, 0, 3) := rfl
theorem ref_of_tail (s : ByteArray) (hs : s.size ≤ 100000) (i : Int) : Ev (fun k => hibernacleref12_Of.j1 k s i false (⟨#[]⟩ : ByteArray) 0 0) (tailOf s) := by
  unfold tailOf
  by_cases h14 : s.size < 14
  · rw [if_pos h14]
    refine Ev.step (f := fun _ => some ([], ⟨#[]⟩, 0, 0, 4)) (fun k => ?_) (Ev.now _)
    simp only [hibernacleref12_Of.j1]
    rw [if_neg (by simp), if_pos (by omega)]
  rw [if_neg h14]
  have r8 := num_range2 s 8
  have r10 := num_range2 s 10
  have r12 := num_range2 s 12
  have r4 := num_range s 4 4 (by omega)
  have g8 := ref_num s 8 2 (by omega)
  have g10 := ref_num s 10 2 (by omega)
  have g4 := ref_num s 4 4 (by omega)
  have g12 := ref_num s 12 2 (by omega)
  obtain ⟨n, hn⟩ := Int.eq_ofNat_of_zero_le r8.1
  obtain ⟨m, hm⟩ := Int.eq_ofNat_of_zero_le r10.1
  obtain ⟨c, hc⟩ := Int.eq_ofNat_of_zero_le r12.1
  rw [hn] at r8 g8
  rw [hm] at r10 g10
  rw [hc] at r12 g12
  have w0 : wrap64 (n : Int) = n := wrap64_id (by omega) (by omega)
  have w1 : wrap64 (m : Int) = m := wrap64_id (by omega) (by omega)
  have w2 : wrap64 (c : Int) = c := wrap64_id (by omega) (by omega)
  have e1 : wrap64 (4 * (n : Int)) = ((4 * n : Nat) : Int) := by rw [wrap64_id (by omega) (by omega)]; omega
  have e2 : wrap64 (14 + ((4 * n : Nat) : Int)) = ((14 + 4 * n : Nat) : Int) := by rw [wrap64_id (by omega) (by omega)]; omega
  have e3 : wrap64 (((14 + 4 * n : Nat) : Int) + (m : Int)) = ((14 + 4 * n + m : Nat) : Int) := by rw [wrap64_id (by omega) (by omega)]; omega
  rw [hn, hm, hc, Int.toNat_natCast]
  have step : ∀ k, hibernacleref12_Of.j1 (k + 1) s i false (⟨#[]⟩ : ByteArray) 0 0 = (hibernacleref01_Get.f k (s.extract 8 10)).bind fun t265 => (hibernacleref01_Get.f k (s.extract 10 12)).bind fun t266 => (if (s.size : Int) < (wrap64 ((wrap64 (14 + (wrap64 (4 * (wrap64 (t265)))))) + (wrap64 (t266)))) then (some (([] : List Int), (⟨#[]⟩ : ByteArray), 0, 0, 4)) else (if (s.size : Int) > (wrap64 ((wrap64 (14 + (wrap64 (4 * (wrap64 (t265)))))) + (wrap64 (t266)))) then (some (([] : List Int), (⟨#[]⟩ : ByteArray), 0, 0, 3)) else ((hibernacleref01_Get.f k (s.extract 4 8)).bind fun t267 => ((hibernacleref01_Get.f k (s.extract 12 14)).bind fun t268 => (if 0 ≤ (wrap64 (14 + (wrap64 (4 * (wrap64 (t265)))))) then (if (wrap64 (14 + (wrap64 (4 * (wrap64 (t265)))))) ≤ (s.size : Int) then (hibernacleref12_Of.l1 k s (wrap64 (t265)) 0 (⟨#[]⟩ : ByteArray) 0 0 ([] : List Int) (s.extract ((wrap64 (14 + (wrap64 (4 * (wrap64 (t265)))))) : Int).toNat s.size) (wrap64 (t268)) (IntKind.u32.wrap (t267))) else (none)) else (none)))))) := by
    intro k
    have c0 : ¬ (s.size : Int) < 14 := by omega
    have c1 : (8 : Nat) ≤ 10 := by omega
    have c2 : (10 : Int) ≤ s.size := by omega
    have c3 : (10 : Nat) ≤ 12 := by omega
    have c4 : (12 : Int) ≤ s.size := by omega
    have c5 : (4 : Nat) ≤ 8 := by omega
    have c6 : (8 : Int) ≤ s.size := by omega
    have c7 : (12 : Nat) ≤ 14 := by omega
    have c8 : (14 : Int) ≤ s.size := by omega
    simp only [hibernacleref12_Of.j1, if_neg c0, if_pos c1, if_pos c2, if_pos c3, if_pos c4, if_pos c5, if_pos c6, if_pos c7, if_pos c8, Bool.false_eq_true, if_false]
  refine Ev.step step (Ev.bind g8 (Ev.bind g10 ?_))
  simp only [w0, w1, e1, e2, e3, Int.toNat_natCast]
  clear step w0 w1 e1 e2 e3 g8 g10
  by_cases hlt : (s.size : Int) < 14 + 4 * (n : Int) + (m : Int)
  · rw [if_pos hlt]
    exact Ev.congr (fun k => if_pos (by omega)) (Ev.now _)
  rw [if_neg hlt]
  refine Ev.congr (fun k => if_neg (by omega)) ?_
  by_cases hgt : (s.size : Int) > 14 + 4 * (n : Int) + (m : Int)
  · rw [if_pos hgt]
    exact Ev.congr (fun k => if_pos (by omega)) (Ev.now _)
  rw [if_neg hgt]
  refine Ev.congr (fun k => if_neg (by omega)) ?_
  refine Ev.bind g4 (Ev.bind g12 ?_)
  refine Ev.congr (fun k => if_pos (by omega)) ?_
  refine Ev.congr (fun k => if_pos (by omega)) ?_
  rw [w2, u32_same r4]
  exact ref_of_words s hs n (by omega) _ (by rw [ByteArray.size_extract]; omega) _ _ r4.1 r4.2 n 0 (Nat.zero_add _)
theorem ref_of_mark (s : ByteArray) (hs : s.size ≤ 100000) : ∀ (d i : Nat), i + d = min s.size 4 → (∀ j, j < i → bt s (j : Int) = bt (⟨#[104, 105, 98, 120]⟩ : ByteArray) (j : Int)) →
    Ev (fun k => hibernacleref12_Of.l0 k s i (⟨#[]⟩ : ByteArray) 0 0) (ofFile s) := by
  intro d
  induction d with
  | zero =>
    intro i hi hj
    have hm : marked s := (marked_iff s).2 fun j hj2 => hj j (by omega)
    rw [ofFile_eq, if_pos hm]
    refine Ev.step (f := fun k => hibernacleref12_Of.j1 k s i false (⟨#[]⟩ : ByteArray) 0 0) (fun k => ?_) (ref_of_tail s hs _)
    simp only [hibernacleref12_Of.l0]
    by_cases h4 : i < 4
    · rw [if_pos (by omega), decide_eq_false (by omega)]
    · rw [if_neg (by omega)]
  | succ d ih =>
    intro i hi hj
    have e1 : wrap64 ((i : Int) + 1) = ((i + 1 : Nat) : Int) := by rw [wrap64_id (by omega) (by omega)]; omega
    by_cases hb : bt s (i : Int) = bt (⟨#[104, 105, 98, 120]⟩ : ByteArray) (i : Int)
    · refine Ev.step (f := fun k => hibernacleref12_Of.j1 k s i true (⟨#[]⟩ : ByteArray) 0 0) (fun k => ?_) (Ev.step (f := fun k => hibernacleref12_Of.l0 k s ((i + 1 : Nat) : Int) (⟨#[]⟩ : ByteArray) 0 0) (fun k => ?_) (ih (i + 1) (by omega) fun j hj2 => ?_))
      · simp only [hibernacleref12_Of.l0]
        rw [if_pos (by omega), decide_eq_true (by omega)]
      · simp only [hibernacleref12_Of.j1]
        rw [if_pos trivial, if_pos (by omega), if_pos (by omega), if_pos (by omega), if_pos hb, e1]
      · by_cases hji : j = i
        · rw [hji]; exact hb
        · exact hj j (by omega)
    · have hm : ¬ marked s := fun hm => hb ((marked_iff s).1 hm i (by omega))
      rw [ofFile_eq, if_neg hm]
      refine Ev.step (f := fun k => hibernacleref12_Of.j1 k s i true (⟨#[]⟩ : ByteArray) 0 0) (fun k => ?_) (Ev.step (f := fun _ => some ([], ⟨#[]⟩, 0, 0, 3)) (fun k => ?_) (Ev.now _))
      · simp only [hibernacleref12_Of.l0]
        rw [if_pos (by omega), decide_eq_true (by omega)]
      · simp only [hibernacleref12_Of.j1]
        rw [if_pos trivial, if_pos (by omega), if_pos (by omega), if_pos (by omega), if_neg hb]
theorem ref_of (s : ByteArray) (hs : s.size ≤ 100000) : Ev (fun k => hibernacleref12_Of.f k s) (ofFile s) :=
  ref_of_mark s hs (min s.size 4) 0 (Nat.zero_add _) fun j hj => absurd hj (Nat.not_lt_zero j)
theorem same_loop (l : List Int) (hl : l.length ≤ 1000000) (b : ByteArray) (c e : Int) : ∀ (d i : Nat), i + d = l.length → Ev (fun k => hibernacleref12_Same.l0 k (l.length : Int) i l b c e l b c e) true := by
  intro d
  induction d with
  | zero =>
    intro i hi
    refine Ev.step (f := fun _ => some true) (fun k => ?_) (Ev.now _)
    simp only [hibernacleref12_Same.l0]; rw [if_neg (by omega)]
  | succ d ih =>
    intro i hi
    have e1 : wrap64 ((i : Int) + 1) = ((i + 1 : Nat) : Int) := by rw [wrap64_id (by omega) (by omega)]; omega
    refine Ev.step (f := fun k => hibernacleref12_Same.l0 k (l.length : Int) ((i + 1 : Nat) : Int) l b c e l b c e) (fun k => ?_) (ih (i + 1) (by omega))
    simp only [hibernacleref12_Same.l0]
    rw [if_pos (by omega), if_pos (by omega), if_pos (by omega), if_pos (by omega), if_pos trivial, e1]
theorem same_refl (l : List Int) (hl : l.length ≤ 1000000) (b : ByteArray) (c e : Int) : Ev (fun k => hibernacleref12_Same.f k l b c e l b c e) true := by
  unfold hibernacleref12_Same.f
  simp only [if_true]
  refine Ev.step (f := fun k => hibernacleref12_Same.l0 k (l.length : Int) 0 l b c e l b c e) (fun k => ?_) (same_loop l hl b c e l.length 0 (Nat.zero_add _))
  simp only [hibernacleref12_Same.j0]
  rw [if_neg (by simp)]
theorem le_back (xs : List Int) (h : ∀ x ∈ xs, 0 ≤ x ∧ x < 256) : leNums (ofB xs) xs.length = xs := by
  induction xs with
  | nil => rfl
  | cons x xs ih =>
    have h1 := h x (List.mem_cons_self ..)
    simp only [ofB, List.length_cons, leNums]
    rw [show (x + 256 * ofB xs) % 256 = x by omega, show (x + 256 * ofB xs) / 256 = ofB xs by omega, ih fun y hy => h y (List.mem_cons_of_mem _ hy)]
theorem le_num (s : ByteArray) (i n : Nat) (h : i + n ≤ s.size) : le (num s i n) n = s.extract i (i + n) := by
  have hl : (bytesOf (s.extract i (i + n))).length = n := by rw [bytesOf_length, ByteArray.size_extract]; omega
  have := le_back (bytesOf (s.extract i (i + n))) (bytesOf_range _)
  rw [hl] at this
  unfold le num
  rw [this, str_bytesOf]
theorem ext_join (s : ByteArray) (i j k : Nat) (h : i ≤ j) (h2 : j ≤ k) : s.extract i j ++ s.extract j k = s.extract i k := by
  rw [ByteArray.extract_append_extract, Nat.min_eq_left h, Nat.max_eq_right h2]
theorem tx_append' (a b : List Int) : tx (a ++ b) = tx a ++ tx b := by unfold tx; rw [textNums_append, str_append]
theorem tx_words (s : ByteArray) (n : Nat) (h : 14 + 4 * n ≤ s.size) : tx (wordsOf s n) = s.extract 14 (14 + 4 * n) := by
  induction n with
  | zero => rw [extract_none _ _ _ (by omega)]; rfl
  | succ n ih =>
    rw [words_snoc, tx_append', ih (by omega)]
    have e : tx [num s (14 + 4 * n) 4] = s.extract (14 + 4 * n) (14 + 4 * n + 4) := by
      rw [← le_num s (14 + 4 * n) 4 (by omega)]
      unfold tx le textNums
      rw [show textNums [] = [] from rfl, List.append_nil]
    rw [e, ext_join _ _ _ _ (by omega) (by omega)]
    congr 1
theorem file_back (s : ByteArray) (l : List Int) (b : ByteArray) (c e : Int) (h : ofFile s = (l, b, c, e, 0)) : chk l b c e = 0 ∧ fileOf l b c e = s ∧ b.size ≤ s.size ∧ 0 ≤ e ∧ e < 4294967296 := by
  unfold ofFile at h
  split at h
  · rename_i hm
    split at h
    · simp at h
    · rename_i h14
      split at h
      · simp at h
      · rename_i hlt
        split at h
        · simp at h
        · rename_i hgt
          split at h
          · rename_i hc
            simp only [Prod.mk.injEq] at h
            obtain ⟨rfl, rfl, rfl, rfl, _⟩ := h
            have r8 := num_range2 s 8
            have r10 := num_range2 s 10
            have r4 := num_range s 4 4 (by omega)
            refine ⟨hc, ?_, by rw [ByteArray.size_extract]; omega, r4.1, r4.2⟩
            have hlen : ((wordsOf s (num s 8 2).toNat).length : Int) = num s 8 2 := by rw [words_length]; omega
            have hsz : ((s.extract (14 + 4 * (num s 8 2).toNat) s.size).size : Int) = num s 10 2 := by rw [ByteArray.size_extract]; omega
            have h4 : (⟨#[104, 105, 98, 120]⟩ : ByteArray) = s.extract 0 4 := by
              unfold marked at hm
              rw [Nat.min_eq_right (by omega)] at hm
              rw [hm, extract_all _ _ (by rw [hibx_size]; omega)]
            unfold fileOf headOf
            rw [hlen, hsz, le_num s 4 4 (by omega), le_num s 8 2 (by omega), le_num s 10 2 (by omega), le_num s 12 2 (by omega), tx_words s _ (by omega), h4]
            rw [ext_join _ _ _ _ (by omega) (by omega), ext_join _ _ _ _ (by omega) (by omega), ext_join _ _ _ _ (by omega) (by omega), ext_join _ _ _ _ (by omega) (by omega), ext_join _ _ _ _ (by omega) (by omega), ext_join _ _ _ _ (by omega) (by omega)]
            exact extract_all _ _ (Nat.le_refl _)
          · simp at h
  · simp at h
end Go.Proofs.Ytgjhabeoaejcdaa.Q
end
section
namespace Go.Proofs.Ytgjhabeoaejcdaa.Q
open Go.RowKit Go.Proofs.Ytgjhabeoaejcdaa.P Go.Proofs.YtgjhabeoaejcdaaW.PrintWords Go.Proofs.YtgjhabeoaejcdaaW.PrintLast Go.Proofs.YtgjhabeoaejcdaaW.PrintMore
end Go.Proofs.Ytgjhabeoaejcdaa.Q
end
section
namespace Go.Proofs.Ytgjhabeoaejcdaa.Q
open Go.RowKit Go.Proofs.Ytgjhabeoaejcdaa.P Go.Proofs.YtgjhabeoaejcdaaW.PrintWords Go.Proofs.YtgjhabeoaejcdaaW.PrintLast Go.Proofs.YtgjhabeoaejcdaaW.PrintMore
theorem of_length (s : ByteArray) (hs : s.size ≤ 100000) : (ofFile s).1.length ≤ 1000000 := by
  unfold ofFile
  have := num_range2 s 8
  split
  · split
    · simp
    · split
      · simp
      · split
        · simp
        · split
          · simp only [words_length]; omega
          · simp
  · simp
theorem ExeReads_ev (s : ByteArray) : Ev (fun k => hibernaclelaw12_ExeReads.f k s) true := by
  unfold hibernaclelaw12_ExeReads.f
  by_cases hg : (s.size : Int) > 2500
  · exact Ev.congr (fun k => if_pos hg) (Ev.bind awake_ev (Ev.now _))
  · refine Ev.congr (fun k => if_neg hg) ?_
    refine Ev.bind (exe_of s (by omega)) (Ev.bind (ref_of s (by omega)) ?_)
    refine Ev.congr (fun k => if_pos rfl) ?_
    refine Ev.bind (same_refl _ (of_length s (by omega)) _ _ _) ?_
    obtain ⟨⟨l, b, c, e, z⟩, hz⟩ : ∃ x, ofFile s = x := ⟨_, rfl⟩
    rw [hz]
    by_cases h0 : z = 0
    · subst h0
      obtain ⟨hc, hf, hb, he0, he1⟩ := file_back s l b c e hz
      have hy := exe_bytes l b c e (by omega) he0 he1
      rw [if_pos hc] at hy
      refine Ev.step (f := fun k => (hibernaclelaw12_awake.f k).bind fun t => some t) (fun k => ?_) (Ev.bind awake_ev (Ev.now _))
      simp only [hibernaclelaw12_ExeReads.j0, hy, Option.bind_some, hf]
      rw [if_neg (by simp), if_pos trivial, if_pos trivial, if_pos trivial]
    · refine Ev.step (f := fun k => (hibernaclelaw12_awake.f k).bind fun t => some t) (fun k => ?_) (Ev.bind awake_ev (Ev.now _))
      simp only [hibernaclelaw12_ExeReads.j0]
      rw [if_neg (by simp), if_neg h0]
end Go.Proofs.Ytgjhabeoaejcdaa.Q
end
section
namespace Go.Proofs.Ytgjhabeoaejcdaa.Pure
open Go.RowKit Go.Proofs.Ytgjhabeoaejcdaa.P Go.Proofs.YtgjhabeoaejcdaaW.PrintWords Go.Proofs.YtgjhabeoaejcdaaW.PrintLast
theorem ExeReads : hibernaclelaw12_ExeReads.Pure := fun a0 _ => (Q.ExeReads_ev a0).rounds
end Go.Proofs.Ytgjhabeoaejcdaa.Pure
end
