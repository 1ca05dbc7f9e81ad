-- Printed for this claim and put together by wip/tools/prune.py.
import Derived.Lib.ItoaLen
import Derived.Test.YthdfkbkenklcaaaDoorCFi1
import Derived.Test.YthdfkbkenklcaaaDoorCFi2
import Derived.Test.YthdfkbkenklcaaaDoorCFi3
import Derived.Test.YthdfkbkenklcaaaDoorCFi4
import Derived.Test.YthdfkbkenklcaaaDoorCFi5
set_option linter.unusedVariables false
set_option linter.unusedSimpArgs false
section
namespace Go.Proofs.YthdfkbkenklcaaaDoor.P
open Go.RowKit Go.Proofs.YthdfkbkenklcaaaDoorW.PrintWords Go.Proofs.YthdfkbkenklcaaaDoorW.PrintLast Go.Proofs.YthdfkbkenklcaaaDoorW.PrintMore
attribute [local go_sem] isSome_setCell_eq max2_int min2_int max_two min_two max_three min_three max_four min_four
set_option linter.unusedVariables false
set_option linter.unusedSimpArgs false
def hibernaclelaw10_alive.f (k : Nat)  : Option (Bool) := (isa_Enc.f k 1 1 2 3 0).bind fun bt183 => ((isa_Enc.f k 31 0 0 0 5).bind fun bt185 => ((isa_Dec.f k 0).bind fun bt187 => (if bt183.1 = 71876608 then (if bt183.2 = 0 then (if bt185.1 = 2080374789 then (if bt185.2 = 0 then (if bt187.2.2.2.2.2 = true then (some false) else ((isa_Text.f k 20 1 2 0 4).bind fun t194 => (some (t194.toList == ([108, 119, 32, 114, 49, 44, 32, 52, 40, 114, 50, 41] : List UInt8))))) else (some false)) else (some false)) else (some false)) else (some false))))
theorem hibernaclelaw10_alive.mono : ∀ k, LeO (hibernaclelaw10_alive.f k ) (hibernaclelaw10_alive.f (k + 1) ) := by
  intro  k
  unfold hibernaclelaw10_alive.f
  repeat' first
      | (with_reducible exact isa_Dec.mono _ _)
      | (with_reducible exact isa_Enc.mono _ _ _ _ _ _)
      | (with_reducible exact isa_Text.mono _ _ _ _ _ _)
      | (with_reducible exact LeO.refl _)
      | (with_reducible exact LeO.none _)
      | (with_reducible refine LeO.ite ?_ ?_)
      | (with_reducible refine LeO.bind ?_ (fun _ => ?_))
      | exact isa_Dec.mono _ _
      | exact isa_Enc.mono _ _ _ _ _ _
      | exact isa_Text.mono _ _ _ _ _ _
      | exact LeO.none _
      | refine LeO.ite ?_ ?_
      | refine LeO.bind ?_ (fun _ => ?_)
set_option maxHeartbeats 8000000 in
set_option maxRecDepth 100000 in
theorem hibernaclelaw10_alive.calls (k : Nat)  (r : Bool) (w : World) (hL : Aside0 (Laid w)) (h : hibernaclelaw10_alive.f k  = some r) :
    Calls Tryd.prog 10 #[] w fun e w' => e = .returned (.bool r) ∧ Below w.heap.size w w' := by
  have hu23 := Tryd.underlying23
  have HB := Aside0.mk (Below.refl w.heap.size w)
  have H : ((isa_Enc.f k 1 1 2 3 0).bind fun bt183 => ((isa_Enc.f k 31 0 0 0 5).bind fun bt185 => ((isa_Dec.f k 0).bind fun bt187 => (if bt183.1 = 71876608 then (if bt183.2 = 0 then (if bt185.1 = 2080374789 then (if bt185.2 = 0 then (if bt187.2.2.2.2.2 = true then (some false) else ((isa_Text.f k 20 1 2 0 4).bind fun t194 => (some (t194.toList == ([108, 119, 32, 114, 49, 44, 32, 52, 40, 114, 50, 41] : List UInt8))))) else (some false)) else (some false)) else (some false)) else (some false))))) = some r := h
  clear h
  replace H := Option.bind_eq_some_iff.mp H
  obtain ⟨⟨t183, t184⟩, A10, H⟩ := H
  replace H : ((isa_Enc.f k 31 0 0 0 5).bind fun bt185 => ((isa_Dec.f k 0).bind fun bt187 => (if t183 = 71876608 then (if t184 = 0 then (if bt185.1 = 2080374789 then (if bt185.2 = 0 then (if bt187.2.2.2.2.2 = true then (some false) else ((isa_Text.f k 20 1 2 0 4).bind fun t194 => (some (t194.toList == ([108, 119, 32, 114, 49, 44, 32, 52, 40, 114, 50, 41] : List UInt8))))) else (some false)) else (some false)) else (some false)) else (some false)))) = some r := H
  have A1 := Aside0.mk A10
  clear A10
  replace H := Option.bind_eq_some_iff.mp H
  obtain ⟨⟨t185, t186⟩, A20, H⟩ := H
  replace H : ((isa_Dec.f k 0).bind fun bt187 => (if t183 = 71876608 then (if t184 = 0 then (if t185 = 2080374789 then (if t186 = 0 then (if bt187.2.2.2.2.2 = true then (some false) else ((isa_Text.f k 20 1 2 0 4).bind fun t194 => (some (t194.toList == ([108, 119, 32, 114, 49, 44, 32, 52, 40, 114, 50, 41] : List UInt8))))) else (some false)) else (some false)) else (some false)) else (some false))) = some r := H
  have A2 := Aside0.mk A20
  clear A20
  replace H := Option.bind_eq_some_iff.mp H
  obtain ⟨⟨t187, t188, t189, t190, t191, t192⟩, A30, H⟩ := H
  replace H : (if t183 = 71876608 then (if t184 = 0 then (if t185 = 2080374789 then (if t186 = 0 then (if t192 = true then (some false) else ((isa_Text.f k 20 1 2 0 4).bind fun t194 => (some (t194.toList == ([108, 119, 32, 114, 49, 44, 32, 52, 40, 114, 50, 41] : List UInt8))))) else (some false)) else (some false)) else (some false)) else (some false)) = some r := H
  have A3 := Aside0.mk A30
  clear A30
  by_cases c4 : t183 = 71876608
  · rw [if_pos c4] at H
    have c4b0 : (t183 == 71876608) = true := beq_iff_eq.mpr c4
    have c4b1 : (t183 != 71876608) = false := bne_eq_false_iff_eq.mpr c4
    clear c4
    by_cases c5 : t184 = 0
    · rw [if_pos c5] at H
      have c5b0 : (t184 == 0) = true := beq_iff_eq.mpr c5
      have c5b1 : (t184 != 0) = false := bne_eq_false_iff_eq.mpr c5
      clear c5
      by_cases c6 : t185 = 2080374789
      · rw [if_pos c6] at H
        have c6b0 : (t185 == 2080374789) = true := beq_iff_eq.mpr c6
        have c6b1 : (t185 != 2080374789) = false := bne_eq_false_iff_eq.mpr c6
        clear c6
        by_cases c7 : t186 = 0
        · rw [if_pos c7] at H
          have c7b0 : (t186 == 0) = true := beq_iff_eq.mpr c7
          have c7b1 : (t186 != 0) = false := bne_eq_false_iff_eq.mpr c7
          clear c7
          by_cases c8 : t192 = true
          · subst c8
            have H1 : (some false) = some r := by rw [if_pos rfl] at H; exact H
            clear H
            have H := H1
            clear H1
            obtain rfl := Option.some.inj H
            go_enter Tryd.func10, Tryd.ntmps10
            go_wp2_with (first | ((with_reducible refine gate_callee (f := 11) rfl ?_); refine goesL_ (some 9) rfl rfl Tryd.func11 (by kernel_rfl) rfl #[.agg #[.int .u8 1, .int .u8 1, .int .u8 2, .int .u8 3, .int .i32 0]] rfl (by (try simp only [List.map_toArray, List.map_cons, List.map_nil]); first | done | rfl | (simp only [List.length_drop, List.length_take]; rfl)) ?_; (with_reducible refine (isa_Enc.calls k 1 1 2 3 0 t183 t184 _ A1.out).mono ?_); rintro e w9 ⟨rfl, hb⟩; refine ⟨_, rfl, ?_⟩; have n0_ := Aside0.mk (below_step (by repeat (first | (with_reducible first | exact HB.out | apply below_alloc | apply pw_below_drewN | apply below_drew1) | exact HB.out)) hb); clear HB; have HB := n0_; clear n0_; (try clear hb); (try clear hb2); (try clear hk); (try clear hi)) | ((with_reducible refine gate_callee (f := 11) rfl ?_); refine goesL_ (some 14) rfl rfl Tryd.func11 (by kernel_rfl) rfl #[.agg #[.int .u8 31, .int .u8 0, .int .u8 0, .int .u8 0, .int .i32 5]] rfl (by (try simp only [List.map_toArray, List.map_cons, List.map_nil]); first | done | rfl | (simp only [List.length_drop, List.length_take]; rfl)) ?_; (with_reducible refine (isa_Enc.calls k 31 0 0 0 5 t185 t186 _ A2.out).mono ?_); rintro e w10 ⟨rfl, hb⟩; refine ⟨_, rfl, ?_⟩; have n0_ := Aside0.mk (below_step (by repeat (first | (with_reducible first | exact HB.out | apply below_alloc | apply pw_below_drewN | apply below_drew1) | exact HB.out)) hb); clear HB; have HB := n0_; clear n0_; (try clear hb); (try clear hb2); (try clear hk); (try clear hi)) | ((with_reducible refine gate_callee (f := 13) rfl ?_); refine goesL_ (some 18) rfl rfl Tryd.func13 (by kernel_rfl) rfl #[.int .u32 0] rfl (by (try simp only [List.map_toArray, List.map_cons, List.map_nil]); first | done | rfl | (simp only [List.length_drop, List.length_take]; rfl)) ?_; (with_reducible refine (isa_Dec.calls k 0 t187 t188 t189 t190 t191 true _ A3.out).mono ?_); rintro e w11 ⟨rfl, hb⟩; refine ⟨_, rfl, ?_⟩; have n0_ := Aside0.mk (below_step (by repeat (first | (with_reducible first | exact HB.out | apply below_alloc | apply pw_below_drewN | apply below_drew1) | exact HB.out)) hb); clear HB; have HB := n0_; clear n0_; (try clear hb); (try clear hb2); (try clear hk); (try clear hi)) | ((with_reducible refine gate_dst (N := 5) rfl ?_); refine box_event ?hg (N := 5) ?hd (cs := #[.int .u8 0, .int .u8 0, .int .u8 0, .int .u8 0, .int .i32 0]) (t := 23) ?hr ?_; (case hd => rfl); (case hg => rfl); (case hr => first | (go_simp; done) | (go_simp; rfl)); intro gb193 hg w12 hbox hb; have n0_ := Aside0.mk (below_step (by repeat (first | (with_reducible first | exact HB.out | apply below_alloc | apply pw_below_drewN | apply below_drew1) | exact HB.out)) hb); have n1_ := Aside0.mk (hbox); have n2_ := Aside0.mk ((by rw [hg]; exact (below_size (by repeat (first | (with_reducible first | exact HB.out | apply below_alloc | apply pw_below_drewN | apply below_drew1) | exact HB.out))) : w.heap.size ≤ gb193)); have n3_ := Aside0.mk ((by rw [hg]; exact (below_size (by repeat (first | (with_reducible first | exact HB.out | apply below_alloc | apply pw_below_drewN | apply below_drew1) | exact HB.out))) : w.heap.size ≤ gb193)); clear HB; have HB := n0_; have BK193 := n1_; have GW193 := n2_; have GE193 := n3_; clear n0_ n1_ n2_ n3_; clear hb hbox hg; have hcz13_0 : w12.cell? ⟨gb193, 0, none⟩ = some (.int .u8 0) := (blk_cell BK193.out 0).trans rfl; have hcz13_1 : w12.cell? ⟨gb193, 1, none⟩ = some (.int .u8 0) := (blk_cell BK193.out 1).trans rfl; have hcz13_2 : w12.cell? ⟨gb193, 2, none⟩ = some (.int .u8 0) := (blk_cell BK193.out 2).trans rfl; have hcz13_3 : w12.cell? ⟨gb193, 3, none⟩ = some (.int .u8 0) := (blk_cell BK193.out 3).trans rfl; have hcz13_4 : w12.cell? ⟨gb193, 4, none⟩ = some (.int .i32 0) := (blk_cell BK193.out 4).trans rfl; have hfz13_0 := blk_frozen BK193.out 0; have hfz13_1 := blk_frozen BK193.out 1; have hfz13_2 := blk_frozen BK193.out 2; have hfz13_3 := blk_frozen BK193.out 3; have hfz13_4 := blk_frozen BK193.out 4))
            go_ret
            exact ⟨by first | rfl | (simp [errW_none, errW_some] <;> rfl) | (simp [*, errW_none, errW_some] <;> rfl), by repeat (first | (with_reducible first | exact HB.out | apply below_alloc | apply pw_below_drewN | apply below_drew1 | refine below_set ?_ GE193.out) | exact HB.out)⟩
          · replace c8 := Bool.eq_false_iff.mpr c8
            subst c8
            have H1 : ((isa_Text.f k 20 1 2 0 4).bind fun t194 => (some (t194.toList == ([108, 119, 32, 114, 49, 44, 32, 52, 40, 114, 50, 41] : List UInt8)))) = some r := by rw [if_neg (show ¬ (false = true) by decide)] at H; exact H
            clear H
            have H := H1
            clear H1
            replace H := Option.bind_eq_some_iff.mp H
            obtain ⟨t194, A140, H⟩ := H
            replace H : (some (t194.toList == ([108, 119, 32, 114, 49, 44, 32, 52, 40, 114, 50, 41] : List UInt8))) = some r := H
            have A14 := Aside0.mk A140
            clear A140
            obtain rfl := Option.some.inj H
            go_enter Tryd.func10, Tryd.ntmps10
            go_wp2_with (first | ((with_reducible refine gate_callee (f := 11) rfl ?_); refine goesL_ (some 9) rfl rfl Tryd.func11 (by kernel_rfl) rfl #[.agg #[.int .u8 1, .int .u8 1, .int .u8 2, .int .u8 3, .int .i32 0]] rfl (by (try simp only [List.map_toArray, List.map_cons, List.map_nil]); first | done | rfl | (simp only [List.length_drop, List.length_take]; rfl)) ?_; (with_reducible refine (isa_Enc.calls k 1 1 2 3 0 t183 t184 _ A1.out).mono ?_); rintro e w15 ⟨rfl, hb⟩; refine ⟨_, rfl, ?_⟩; have n0_ := Aside0.mk (below_step (by repeat (first | (with_reducible first | exact HB.out | apply below_alloc | apply pw_below_drewN | apply below_drew1) | exact HB.out)) hb); clear HB; have HB := n0_; clear n0_; (try clear hb); (try clear hb2); (try clear hk); (try clear hi)) | ((with_reducible refine gate_callee (f := 11) rfl ?_); refine goesL_ (some 14) rfl rfl Tryd.func11 (by kernel_rfl) rfl #[.agg #[.int .u8 31, .int .u8 0, .int .u8 0, .int .u8 0, .int .i32 5]] rfl (by (try simp only [List.map_toArray, List.map_cons, List.map_nil]); first | done | rfl | (simp only [List.length_drop, List.length_take]; rfl)) ?_; (with_reducible refine (isa_Enc.calls k 31 0 0 0 5 t185 t186 _ A2.out).mono ?_); rintro e w16 ⟨rfl, hb⟩; refine ⟨_, rfl, ?_⟩; have n0_ := Aside0.mk (below_step (by repeat (first | (with_reducible first | exact HB.out | apply below_alloc | apply pw_below_drewN | apply below_drew1) | exact HB.out)) hb); clear HB; have HB := n0_; clear n0_; (try clear hb); (try clear hb2); (try clear hk); (try clear hi)) | ((with_reducible refine gate_callee (f := 13) rfl ?_); refine goesL_ (some 18) rfl rfl Tryd.func13 (by kernel_rfl) rfl #[.int .u32 0] rfl (by (try simp only [List.map_toArray, List.map_cons, List.map_nil]); first | done | rfl | (simp only [List.length_drop, List.length_take]; rfl)) ?_; (with_reducible refine (isa_Dec.calls k 0 t187 t188 t189 t190 t191 false _ A3.out).mono ?_); rintro e w17 ⟨rfl, hb⟩; refine ⟨_, rfl, ?_⟩; have n0_ := Aside0.mk (below_step (by repeat (first | (with_reducible first | exact HB.out | apply below_alloc | apply pw_below_drewN | apply below_drew1) | exact HB.out)) hb); clear HB; have HB := n0_; clear n0_; (try clear hb); (try clear hb2); (try clear hk); (try clear hi)) | ((with_reducible refine gate_dst (N := 5) rfl ?_); refine box_event ?hg (N := 5) ?hd (cs := #[.int .u8 0, .int .u8 0, .int .u8 0, .int .u8 0, .int .i32 0]) (t := 23) ?hr ?_; (case hd => rfl); (case hg => rfl); (case hr => first | (go_simp; done) | (go_simp; rfl)); intro gb193 hg w18 hbox hb; have n0_ := Aside0.mk (below_step (by repeat (first | (with_reducible first | exact HB.out | apply below_alloc | apply pw_below_drewN | apply below_drew1) | exact HB.out)) hb); have n1_ := Aside0.mk (hbox); have n2_ := Aside0.mk ((by rw [hg]; exact (below_size (by repeat (first | (with_reducible first | exact HB.out | apply below_alloc | apply pw_below_drewN | apply below_drew1) | exact HB.out))) : w.heap.size ≤ gb193)); have n3_ := Aside0.mk ((by rw [hg]; exact (below_size (by repeat (first | (with_reducible first | exact HB.out | apply below_alloc | apply pw_below_drewN | apply below_drew1) | exact HB.out))) : w.heap.size ≤ gb193)); clear HB; have HB := n0_; have BK193 := n1_; have GW193 := n2_; have GE193 := n3_; clear n0_ n1_ n2_ n3_; clear hb hbox hg; have hcz19_0 : w18.cell? ⟨gb193, 0, none⟩ = some (.int .u8 0) := (blk_cell BK193.out 0).trans rfl; have hcz19_1 : w18.cell? ⟨gb193, 1, none⟩ = some (.int .u8 0) := (blk_cell BK193.out 1).trans rfl; have hcz19_2 : w18.cell? ⟨gb193, 2, none⟩ = some (.int .u8 0) := (blk_cell BK193.out 2).trans rfl; have hcz19_3 : w18.cell? ⟨gb193, 3, none⟩ = some (.int .u8 0) := (blk_cell BK193.out 3).trans rfl; have hcz19_4 : w18.cell? ⟨gb193, 4, none⟩ = some (.int .i32 0) := (blk_cell BK193.out 4).trans rfl; have hfz19_0 := blk_frozen BK193.out 0; have hfz19_1 := blk_frozen BK193.out 1; have hfz19_2 := blk_frozen BK193.out 2; have hfz19_3 := blk_frozen BK193.out 3; have hfz19_4 := blk_frozen BK193.out 4) | (go_at_call 15; (with_reducible refine (isa_Text.calls k 20 1 2 0 4 t194 _ (hL.laid (by repeat (first | (with_reducible first | exact HB.out | apply below_alloc | apply pw_below_drewN | apply below_drew1 | refine below_set ?_ GE193.out) | exact HB.out))) A14.out).mono ?_); rintro e w20 ⟨rfl, hb⟩; have n0_ := Aside0.mk (blk_below (g := gb193) (o := .cells #[.int .u8 t187, .int .u8 t188, .int .u8 t189, .int .u8 t190, .int .i32 t191] 23 (0, 0)) (by (with_reducible repeat (first | refine blk_drewN ?_ _ | refine blk_drew ?_ | refine blk_alloc ?_ _)); refine blk_put (cs := #[.int .u8 t187, .int .u8 t188, .int .u8 t189, .int .u8 t190, .int .i32 0]) ?_ 4 _ rfl; (with_reducible repeat (first | refine blk_drewN ?_ _ | refine blk_drew ?_ | refine blk_alloc ?_ _)); refine blk_put (cs := #[.int .u8 t187, .int .u8 t188, .int .u8 t189, .int .u8 0, .int .i32 0]) ?_ 3 _ rfl; (with_reducible repeat (first | refine blk_drewN ?_ _ | refine blk_drew ?_ | refine blk_alloc ?_ _)); refine blk_put (cs := #[.int .u8 t187, .int .u8 t188, .int .u8 0, .int .u8 0, .int .i32 0]) ?_ 2 _ rfl; (with_reducible repeat (first | refine blk_drewN ?_ _ | refine blk_drew ?_ | refine blk_alloc ?_ _)); refine blk_put (cs := #[.int .u8 t187, .int .u8 0, .int .u8 0, .int .u8 0, .int .i32 0]) ?_ 1 _ rfl; (with_reducible repeat (first | refine blk_drewN ?_ _ | refine blk_drew ?_ | refine blk_alloc ?_ _)); refine blk_put (cs := #[.int .u8 0, .int .u8 0, .int .u8 0, .int .u8 0, .int .i32 0]) ?_ 0 _ rfl; (with_reducible repeat (first | refine blk_drewN ?_ _ | refine blk_drew ?_ | refine blk_alloc ?_ _)); exact BK193.out) hb); have n1_ := Aside0.mk (below_step (by repeat (first | (with_reducible first | exact HB.out | apply below_alloc | apply pw_below_drewN | apply below_drew1 | refine below_set ?_ GE193.out) | exact HB.out)) hb); clear BK193; clear HB; have BK193 := n0_; have HB := n1_; clear n0_ n1_; (try clear hb); (try clear hb2); (try clear hk); (try clear hi)))
            go_ret
            exact ⟨by first | rfl | (simp [errW_none, errW_some] <;> rfl) | (simp [*, errW_none, errW_some] <;> rfl), by repeat (first | (with_reducible first | exact HB.out | apply below_alloc | apply pw_below_drewN | apply below_drew1 | refine below_set ?_ GE193.out) | exact HB.out)⟩
        · rw [if_neg c7] at H
          have c7b0 : (t186 == 0) = false := beq_eq_false_iff_ne.mpr c7
          have c7b1 : (t186 != 0) = true := bne_iff_ne.mpr c7
          obtain rfl := Option.some.inj H
          go_enter Tryd.func10, Tryd.ntmps10
          go_wp2_with (first | ((with_reducible refine gate_callee (f := 11) rfl ?_); refine goesL_ (some 9) rfl rfl Tryd.func11 (by kernel_rfl) rfl #[.agg #[.int .u8 1, .int .u8 1, .int .u8 2, .int .u8 3, .int .i32 0]] rfl (by (try simp only [List.map_toArray, List.map_cons, List.map_nil]); first | done | rfl | (simp only [List.length_drop, List.length_take]; rfl)) ?_; (with_reducible refine (isa_Enc.calls k 1 1 2 3 0 t183 t184 _ A1.out).mono ?_); rintro e w21 ⟨rfl, hb⟩; refine ⟨_, rfl, ?_⟩; have n0_ := Aside0.mk (below_step (by repeat (first | (with_reducible first | exact HB.out | apply below_alloc | apply pw_below_drewN | apply below_drew1) | exact HB.out)) hb); clear HB; have HB := n0_; clear n0_; (try clear hb); (try clear hb2); (try clear hk); (try clear hi)) | ((with_reducible refine gate_callee (f := 11) rfl ?_); refine goesL_ (some 14) rfl rfl Tryd.func11 (by kernel_rfl) rfl #[.agg #[.int .u8 31, .int .u8 0, .int .u8 0, .int .u8 0, .int .i32 5]] rfl (by (try simp only [List.map_toArray, List.map_cons, List.map_nil]); first | done | rfl | (simp only [List.length_drop, List.length_take]; rfl)) ?_; (with_reducible refine (isa_Enc.calls k 31 0 0 0 5 t185 t186 _ A2.out).mono ?_); rintro e w22 ⟨rfl, hb⟩; refine ⟨_, rfl, ?_⟩; have n0_ := Aside0.mk (below_step (by repeat (first | (with_reducible first | exact HB.out | apply below_alloc | apply pw_below_drewN | apply below_drew1) | exact HB.out)) hb); clear HB; have HB := n0_; clear n0_; (try clear hb); (try clear hb2); (try clear hk); (try clear hi)) | ((with_reducible refine gate_callee (f := 13) rfl ?_); refine goesL_ (some 18) rfl rfl Tryd.func13 (by kernel_rfl) rfl #[.int .u32 0] rfl (by (try simp only [List.map_toArray, List.map_cons, List.map_nil]); first | done | rfl | (simp only [List.length_drop, List.length_take]; rfl)) ?_; (with_reducible refine (isa_Dec.calls k 0 t187 t188 t189 t190 t191 t192 _ A3.out).mono ?_); rintro e w23 ⟨rfl, hb⟩; refine ⟨_, rfl, ?_⟩; have n0_ := Aside0.mk (below_step (by repeat (first | (with_reducible first | exact HB.out | apply below_alloc | apply pw_below_drewN | apply below_drew1) | exact HB.out)) hb); clear HB; have HB := n0_; clear n0_; (try clear hb); (try clear hb2); (try clear hk); (try clear hi)) | ((with_reducible refine gate_dst (N := 5) rfl ?_); refine box_event ?hg (N := 5) ?hd (cs := #[.int .u8 0, .int .u8 0, .int .u8 0, .int .u8 0, .int .i32 0]) (t := 23) ?hr ?_; (case hd => rfl); (case hg => rfl); (case hr => first | (go_simp; done) | (go_simp; rfl)); intro gb193 hg w24 hbox hb; have n0_ := Aside0.mk (below_step (by repeat (first | (with_reducible first | exact HB.out | apply below_alloc | apply pw_below_drewN | apply below_drew1) | exact HB.out)) hb); have n1_ := Aside0.mk (hbox); have n2_ := Aside0.mk ((by rw [hg]; exact (below_size (by repeat (first | (with_reducible first | exact HB.out | apply below_alloc | apply pw_below_drewN | apply below_drew1) | exact HB.out))) : w.heap.size ≤ gb193)); have n3_ := Aside0.mk ((by rw [hg]; exact (below_size (by repeat (first | (with_reducible first | exact HB.out | apply below_alloc | apply pw_below_drewN | apply below_drew1) | exact HB.out))) : w.heap.size ≤ gb193)); clear HB; have HB := n0_; have BK193 := n1_; have GW193 := n2_; have GE193 := n3_; clear n0_ n1_ n2_ n3_; clear hb hbox hg; have hcz25_0 : w24.cell? ⟨gb193, 0, none⟩ = some (.int .u8 0) := (blk_cell BK193.out 0).trans rfl; have hcz25_1 : w24.cell? ⟨gb193, 1, none⟩ = some (.int .u8 0) := (blk_cell BK193.out 1).trans rfl; have hcz25_2 : w24.cell? ⟨gb193, 2, none⟩ = some (.int .u8 0) := (blk_cell BK193.out 2).trans rfl; have hcz25_3 : w24.cell? ⟨gb193, 3, none⟩ = some (.int .u8 0) := (blk_cell BK193.out 3).trans rfl; have hcz25_4 : w24.cell? ⟨gb193, 4, none⟩ = some (.int .i32 0) := (blk_cell BK193.out 4).trans rfl; have hfz25_0 := blk_frozen BK193.out 0; have hfz25_1 := blk_frozen BK193.out 1; have hfz25_2 := blk_frozen BK193.out 2; have hfz25_3 := blk_frozen BK193.out 3; have hfz25_4 := blk_frozen BK193.out 4))
          go_ret
          exact ⟨by first | rfl | (simp [errW_none, errW_some] <;> rfl) | (simp [*, errW_none, errW_some] <;> rfl), by repeat (first | (with_reducible first | exact HB.out | apply below_alloc | apply pw_below_drewN | apply below_drew1 | refine below_set ?_ GE193.out) | exact HB.out)⟩
      · rw [if_neg c6] at H
        have c6b0 : (t185 == 2080374789) = false := beq_eq_false_iff_ne.mpr c6
        have c6b1 : (t185 != 2080374789) = true := bne_iff_ne.mpr c6
        obtain rfl := Option.some.inj H
        go_enter Tryd.func10, Tryd.ntmps10
        go_wp2_with (first | ((with_reducible refine gate_callee (f := 11) rfl ?_); refine goesL_ (some 9) rfl rfl Tryd.func11 (by kernel_rfl) rfl #[.agg #[.int .u8 1, .int .u8 1, .int .u8 2, .int .u8 3, .int .i32 0]] rfl (by (try simp only [List.map_toArray, List.map_cons, List.map_nil]); first | done | rfl | (simp only [List.length_drop, List.length_take]; rfl)) ?_; (with_reducible refine (isa_Enc.calls k 1 1 2 3 0 t183 t184 _ A1.out).mono ?_); rintro e w26 ⟨rfl, hb⟩; refine ⟨_, rfl, ?_⟩; have n0_ := Aside0.mk (below_step (by repeat (first | (with_reducible first | exact HB.out | apply below_alloc | apply pw_below_drewN | apply below_drew1) | exact HB.out)) hb); clear HB; have HB := n0_; clear n0_; (try clear hb); (try clear hb2); (try clear hk); (try clear hi)) | ((with_reducible refine gate_callee (f := 11) rfl ?_); refine goesL_ (some 14) rfl rfl Tryd.func11 (by kernel_rfl) rfl #[.agg #[.int .u8 31, .int .u8 0, .int .u8 0, .int .u8 0, .int .i32 5]] rfl (by (try simp only [List.map_toArray, List.map_cons, List.map_nil]); first | done | rfl | (simp only [List.length_drop, List.length_take]; rfl)) ?_; (with_reducible refine (isa_Enc.calls k 31 0 0 0 5 t185 t186 _ A2.out).mono ?_); rintro e w27 ⟨rfl, hb⟩; refine ⟨_, rfl, ?_⟩; have n0_ := Aside0.mk (below_step (by repeat (first | (with_reducible first | exact HB.out | apply below_alloc | apply pw_below_drewN | apply below_drew1) | exact HB.out)) hb); clear HB; have HB := n0_; clear n0_; (try clear hb); (try clear hb2); (try clear hk); (try clear hi)) | ((with_reducible refine gate_callee (f := 13) rfl ?_); refine goesL_ (some 18) rfl rfl Tryd.func13 (by kernel_rfl) rfl #[.int .u32 0] rfl (by (try simp only [List.map_toArray, List.map_cons, List.map_nil]); first | done | rfl | (simp only [List.length_drop, List.length_take]; rfl)) ?_; (with_reducible refine (isa_Dec.calls k 0 t187 t188 t189 t190 t191 t192 _ A3.out).mono ?_); rintro e w28 ⟨rfl, hb⟩; refine ⟨_, rfl, ?_⟩; have n0_ := Aside0.mk (below_step (by repeat (first | (with_reducible first | exact HB.out | apply below_alloc | apply pw_below_drewN | apply below_drew1) | exact HB.out)) hb); clear HB; have HB := n0_; clear n0_; (try clear hb); (try clear hb2); (try clear hk); (try clear hi)) | ((with_reducible refine gate_dst (N := 5) rfl ?_); refine box_event ?hg (N := 5) ?hd (cs := #[.int .u8 0, .int .u8 0, .int .u8 0, .int .u8 0, .int .i32 0]) (t := 23) ?hr ?_; (case hd => rfl); (case hg => rfl); (case hr => first | (go_simp; done) | (go_simp; rfl)); intro gb193 hg w29 hbox hb; have n0_ := Aside0.mk (below_step (by repeat (first | (with_reducible first | exact HB.out | apply below_alloc | apply pw_below_drewN | apply below_drew1) | exact HB.out)) hb); have n1_ := Aside0.mk (hbox); have n2_ := Aside0.mk ((by rw [hg]; exact (below_size (by repeat (first | (with_reducible first | exact HB.out | apply below_alloc | apply pw_below_drewN | apply below_drew1) | exact HB.out))) : w.heap.size ≤ gb193)); have n3_ := Aside0.mk ((by rw [hg]; exact (below_size (by repeat (first | (with_reducible first | exact HB.out | apply below_alloc | apply pw_below_drewN | apply below_drew1) | exact HB.out))) : w.heap.size ≤ gb193)); clear HB; have HB := n0_; have BK193 := n1_; have GW193 := n2_; have GE193 := n3_; clear n0_ n1_ n2_ n3_; clear hb hbox hg; have hcz30_0 : w29.cell? ⟨gb193, 0, none⟩ = some (.int .u8 0) := (blk_cell BK193.out 0).trans rfl; have hcz30_1 : w29.cell? ⟨gb193, 1, none⟩ = some (.int .u8 0) := (blk_cell BK193.out 1).trans rfl; have hcz30_2 : w29.cell? ⟨gb193, 2, none⟩ = some (.int .u8 0) := (blk_cell BK193.out 2).trans rfl; have hcz30_3 : w29.cell? ⟨gb193, 3, none⟩ = some (.int .u8 0) := (blk_cell BK193.out 3).trans rfl; have hcz30_4 : w29.cell? ⟨gb193, 4, none⟩ = some (.int .i32 0) := (blk_cell BK193.out 4).trans rfl; have hfz30_0 := blk_frozen BK193.out 0; have hfz30_1 := blk_frozen BK193.out 1; have hfz30_2 := blk_frozen BK193.out 2; have hfz30_3 := blk_frozen BK193.out 3; have hfz30_4 := blk_frozen BK193.out 4))
        go_ret
        exact ⟨by first | rfl | (simp [errW_none, errW_some] <;> rfl) | (simp [*, errW_none, errW_some] <;> rfl), by repeat (first | (with_reducible first | exact HB.out | apply below_alloc | apply pw_below_drewN | apply below_drew1 | refine below_set ?_ GE193.out) | exact HB.out)⟩
    · rw [if_neg c5] at H
      have c5b0 : (t184 == 0) = false := beq_eq_false_iff_ne.mpr c5
      have c5b1 : (t184 != 0) = true := bne_iff_ne.mpr c5
      obtain rfl := Option.some.inj H
      go_enter Tryd.func10, Tryd.ntmps10
      go_wp2_with (first | ((with_reducible refine gate_callee (f := 11) rfl ?_); refine goesL_ (some 9) rfl rfl Tryd.func11 (by kernel_rfl) rfl #[.agg #[.int .u8 1, .int .u8 1, .int .u8 2, .int .u8 3, .int .i32 0]] rfl (by (try simp only [List.map_toArray, List.map_cons, List.map_nil]); first | done | rfl | (simp only [List.length_drop, List.length_take]; rfl)) ?_; (with_reducible refine (isa_Enc.calls k 1 1 2 3 0 t183 t184 _ A1.out).mono ?_); rintro e w31 ⟨rfl, hb⟩; refine ⟨_, rfl, ?_⟩; have n0_ := Aside0.mk (below_step (by repeat (first | (with_reducible first | exact HB.out | apply below_alloc | apply pw_below_drewN | apply below_drew1) | exact HB.out)) hb); clear HB; have HB := n0_; clear n0_; (try clear hb); (try clear hb2); (try clear hk); (try clear hi)) | ((with_reducible refine gate_callee (f := 11) rfl ?_); refine goesL_ (some 14) rfl rfl Tryd.func11 (by kernel_rfl) rfl #[.agg #[.int .u8 31, .int .u8 0, .int .u8 0, .int .u8 0, .int .i32 5]] rfl (by (try simp only [List.map_toArray, List.map_cons, List.map_nil]); first | done | rfl | (simp only [List.length_drop, List.length_take]; rfl)) ?_; (with_reducible refine (isa_Enc.calls k 31 0 0 0 5 t185 t186 _ A2.out).mono ?_); rintro e w32 ⟨rfl, hb⟩; refine ⟨_, rfl, ?_⟩; have n0_ := Aside0.mk (below_step (by repeat (first | (with_reducible first | exact HB.out | apply below_alloc | apply pw_below_drewN | apply below_drew1) | exact HB.out)) hb); clear HB; have HB := n0_; clear n0_; (try clear hb); (try clear hb2); (try clear hk); (try clear hi)) | ((with_reducible refine gate_callee (f := 13) rfl ?_); refine goesL_ (some 18) rfl rfl Tryd.func13 (by kernel_rfl) rfl #[.int .u32 0] rfl (by (try simp only [List.map_toArray, List.map_cons, List.map_nil]); first | done | rfl | (simp only [List.length_drop, List.length_take]; rfl)) ?_; (with_reducible refine (isa_Dec.calls k 0 t187 t188 t189 t190 t191 t192 _ A3.out).mono ?_); rintro e w33 ⟨rfl, hb⟩; refine ⟨_, rfl, ?_⟩; have n0_ := Aside0.mk (below_step (by repeat (first | (with_reducible first | exact HB.out | apply below_alloc | apply pw_below_drewN | apply below_drew1) | exact HB.out)) hb); clear HB; have HB := n0_; clear n0_; (try clear hb); (try clear hb2); (try clear hk); (try clear hi)) | ((with_reducible refine gate_dst (N := 5) rfl ?_); refine box_event ?hg (N := 5) ?hd (cs := #[.int .u8 0, .int .u8 0, .int .u8 0, .int .u8 0, .int .i32 0]) (t := 23) ?hr ?_; (case hd => rfl); (case hg => rfl); (case hr => first | (go_simp; done) | (go_simp; rfl)); intro gb193 hg w34 hbox hb; have n0_ := Aside0.mk (below_step (by repeat (first | (with_reducible first | exact HB.out | apply below_alloc | apply pw_below_drewN | apply below_drew1) | exact HB.out)) hb); have n1_ := Aside0.mk (hbox); have n2_ := Aside0.mk ((by rw [hg]; exact (below_size (by repeat (first | (with_reducible first | exact HB.out | apply below_alloc | apply pw_below_drewN | apply below_drew1) | exact HB.out))) : w.heap.size ≤ gb193)); have n3_ := Aside0.mk ((by rw [hg]; exact (below_size (by repeat (first | (with_reducible first | exact HB.out | apply below_alloc | apply pw_below_drewN | apply below_drew1) | exact HB.out))) : w.heap.size ≤ gb193)); clear HB; have HB := n0_; have BK193 := n1_; have GW193 := n2_; have GE193 := n3_; clear n0_ n1_ n2_ n3_; clear hb hbox hg; have hcz35_0 : w34.cell? ⟨gb193, 0, none⟩ = some (.int .u8 0) := (blk_cell BK193.out 0).trans rfl; have hcz35_1 : w34.cell? ⟨gb193, 1, none⟩ = some (.int .u8 0) := (blk_cell BK193.out 1).trans rfl; have hcz35_2 : w34.cell? ⟨gb193, 2, none⟩ = some (.int .u8 0) := (blk_cell BK193.out 2).trans rfl; have hcz35_3 : w34.cell? ⟨gb193, 3, none⟩ = some (.int .u8 0) := (blk_cell BK193.out 3).trans rfl; have hcz35_4 : w34.cell? ⟨gb193, 4, none⟩ = some (.int .i32 0) := (blk_cell BK193.out 4).trans rfl; have hfz35_0 := blk_frozen BK193.out 0; have hfz35_1 := blk_frozen BK193.out 1; have hfz35_2 := blk_frozen BK193.out 2; have hfz35_3 := blk_frozen BK193.out 3; have hfz35_4 := blk_frozen BK193.out 4))
      go_ret
      exact ⟨by first | rfl | (simp [errW_none, errW_some] <;> rfl) | (simp [*, errW_none, errW_some] <;> rfl), by repeat (first | (with_reducible first | exact HB.out | apply below_alloc | apply pw_below_drewN | apply below_drew1 | refine below_set ?_ GE193.out) | exact HB.out)⟩
  · rw [if_neg c4] at H
    have c4b0 : (t183 == 71876608) = false := beq_eq_false_iff_ne.mpr c4
    have c4b1 : (t183 != 71876608) = true := bne_iff_ne.mpr c4
    obtain rfl := Option.some.inj H
    go_enter Tryd.func10, Tryd.ntmps10
    go_wp2_with (first | ((with_reducible refine gate_callee (f := 11) rfl ?_); refine goesL_ (some 9) rfl rfl Tryd.func11 (by kernel_rfl) rfl #[.agg #[.int .u8 1, .int .u8 1, .int .u8 2, .int .u8 3, .int .i32 0]] rfl (by (try simp only [List.map_toArray, List.map_cons, List.map_nil]); first | done | rfl | (simp only [List.length_drop, List.length_take]; rfl)) ?_; (with_reducible refine (isa_Enc.calls k 1 1 2 3 0 t183 t184 _ A1.out).mono ?_); rintro e w36 ⟨rfl, hb⟩; refine ⟨_, rfl, ?_⟩; have n0_ := Aside0.mk (below_step (by repeat (first | (with_reducible first | exact HB.out | apply below_alloc | apply pw_below_drewN | apply below_drew1) | exact HB.out)) hb); clear HB; have HB := n0_; clear n0_; (try clear hb); (try clear hb2); (try clear hk); (try clear hi)) | ((with_reducible refine gate_callee (f := 11) rfl ?_); refine goesL_ (some 14) rfl rfl Tryd.func11 (by kernel_rfl) rfl #[.agg #[.int .u8 31, .int .u8 0, .int .u8 0, .int .u8 0, .int .i32 5]] rfl (by (try simp only [List.map_toArray, List.map_cons, List.map_nil]); first | done | rfl | (simp only [List.length_drop, List.length_take]; rfl)) ?_; (with_reducible refine (isa_Enc.calls k 31 0 0 0 5 t185 t186 _ A2.out).mono ?_); rintro e w37 ⟨rfl, hb⟩; refine ⟨_, rfl, ?_⟩; have n0_ := Aside0.mk (below_step (by repeat (first | (with_reducible first | exact HB.out | apply below_alloc | apply pw_below_drewN | apply below_drew1) | exact HB.out)) hb); clear HB; have HB := n0_; clear n0_; (try clear hb); (try clear hb2); (try clear hk); (try clear hi)) | ((with_reducible refine gate_callee (f := 13) rfl ?_); refine goesL_ (some 18) rfl rfl Tryd.func13 (by kernel_rfl) rfl #[.int .u32 0] rfl (by (try simp only [List.map_toArray, List.map_cons, List.map_nil]); first | done | rfl | (simp only [List.length_drop, List.length_take]; rfl)) ?_; (with_reducible refine (isa_Dec.calls k 0 t187 t188 t189 t190 t191 t192 _ A3.out).mono ?_); rintro e w38 ⟨rfl, hb⟩; refine ⟨_, rfl, ?_⟩; have n0_ := Aside0.mk (below_step (by repeat (first | (with_reducible first | exact HB.out | apply below_alloc | apply pw_below_drewN | apply below_drew1) | exact HB.out)) hb); clear HB; have HB := n0_; clear n0_; (try clear hb); (try clear hb2); (try clear hk); (try clear hi)) | ((with_reducible refine gate_dst (N := 5) rfl ?_); refine box_event ?hg (N := 5) ?hd (cs := #[.int .u8 0, .int .u8 0, .int .u8 0, .int .u8 0, .int .i32 0]) (t := 23) ?hr ?_; (case hd => rfl); (case hg => rfl); (case hr => first | (go_simp; done) | (go_simp; rfl)); intro gb193 hg w39 hbox hb; have n0_ := Aside0.mk (below_step (by repeat (first | (with_reducible first | exact HB.out | apply below_alloc | apply pw_below_drewN | apply below_drew1) | exact HB.out)) hb); have n1_ := Aside0.mk (hbox); have n2_ := Aside0.mk ((by rw [hg]; exact (below_size (by repeat (first | (with_reducible first | exact HB.out | apply below_alloc | apply pw_below_drewN | apply below_drew1) | exact HB.out))) : w.heap.size ≤ gb193)); have n3_ := Aside0.mk ((by rw [hg]; exact (below_size (by repeat (first | (with_reducible first | exact HB.out | apply below_alloc | apply pw_below_drewN | apply below_drew1) | exact HB.out))) : w.heap.size ≤ gb193)); clear HB; have HB := n0_; have BK193 := n1_; have GW193 := n2_; have GE193 := n3_; clear n0_ n1_ n2_ n3_; clear hb hbox hg; have hcz40_0 : w39.cell? ⟨gb193, 0, none⟩ = some (.int .u8 0) := (blk_cell BK193.out 0).trans rfl; have hcz40_1 : w39.cell? ⟨gb193, 1, none⟩ = some (.int .u8 0) := (blk_cell BK193.out 1).trans rfl; have hcz40_2 : w39.cell? ⟨gb193, 2, none⟩ = some (.int .u8 0) := (blk_cell BK193.out 2).trans rfl; have hcz40_3 : w39.cell? ⟨gb193, 3, none⟩ = some (.int .u8 0) := (blk_cell BK193.out 3).trans rfl; have hcz40_4 : w39.cell? ⟨gb193, 4, none⟩ = some (.int .i32 0) := (blk_cell BK193.out 4).trans rfl; have hfz40_0 := blk_frozen BK193.out 0; have hfz40_1 := blk_frozen BK193.out 1; have hfz40_2 := blk_frozen BK193.out 2; have hfz40_3 := blk_frozen BK193.out 3; have hfz40_4 := blk_frozen BK193.out 4))
    go_ret
    exact ⟨by first | rfl | (simp [errW_none, errW_some] <;> rfl) | (simp [*, errW_none, errW_some] <;> rfl), by repeat (first | (with_reducible first | exact HB.out | apply below_alloc | apply pw_below_drewN | apply below_drew1 | refine below_set ?_ GE193.out) | exact HB.out)⟩
mutual
def hibernacleref10_Form.j0 : Nat → Int → Bool → Option (Int)
  | 0, _, _ => none
  | k + 1, x0, x3 => if x3 = true then (some 1) else (if x0 ≥ 14 then (if x0 ≤ 18 then (hibernacleref10_Form.j1 k x0 true) else (if x0 ≥ 25 then (hibernacleref10_Form.j1 k x0 (decide (x0 ≤ 28))) else (hibernacleref10_Form.j1 k x0 false))) else (if x0 ≥ 25 then (hibernacleref10_Form.j1 k x0 (decide (x0 ≤ 28))) else (hibernacleref10_Form.j1 k x0 false)))
def hibernacleref10_Form.j1 : Nat → Int → Bool → Option (Int)
  | 0, _, _ => none
  | k + 1, x0, x10 => if x10 = true then (some 2) else (if x0 = 19 then (hibernacleref10_Form.j2 k x0 true) else (hibernacleref10_Form.j2 k x0 (x0 == 29)))
def hibernacleref10_Form.j2 : Nat → Int → Bool → Option (Int)
  | 0, _, _ => none
  | k + 1, x0, x25 => if x25 = true then (some 3) else (if x0 ≥ 20 then (if x0 ≤ 24 then (hibernacleref10_Form.j3 k x0 true) else (hibernacleref10_Form.j3 k x0 (x0 == 30))) else (hibernacleref10_Form.j3 k x0 (x0 == 30)))
def hibernacleref10_Form.j3 : Nat → Int → Bool → Option (Int)
  | 0, _, _ => none
  | k + 1, x0, x32 => if x32 = true then (some 4) else (if x0 = 31 then (some 5) else (some 0))
end
def hibernacleref10_Form.f (k : Nat) (a0 : Int) : Option (Int) := if a0 ≥ 1 then (hibernacleref10_Form.j0 k a0 (decide (a0 ≤ 13))) else (hibernacleref10_Form.j0 k a0 false)
theorem hibernacleref10_Form.mono_l : ∀ k, (∀ y0 y1, LeO (hibernacleref10_Form.j0 k y0 y1) (hibernacleref10_Form.j0 (k + 1) y0 y1)) ∧ (∀ y0 y1, LeO (hibernacleref10_Form.j1 k y0 y1) (hibernacleref10_Form.j1 (k + 1) y0 y1)) ∧ (∀ y0 y1, LeO (hibernacleref10_Form.j2 k y0 y1) (hibernacleref10_Form.j2 (k + 1) y0 y1)) ∧ (∀ y0 y1, LeO (hibernacleref10_Form.j3 k y0 y1) (hibernacleref10_Form.j3 (k + 1) y0 y1))
  | 0 => ⟨fun _ _ r h => by simp [hibernacleref10_Form.j0] at h, fun _ _ r h => by simp [hibernacleref10_Form.j1] at h, fun _ _ r h => by simp [hibernacleref10_Form.j2] at h, fun _ _ r h => by simp [hibernacleref10_Form.j3] at h⟩
  | k + 1 => by
    obtain ⟨ih0, ih1, ih2, ih3⟩ := hibernacleref10_Form.mono_l k
    refine ⟨?_, ?_, ?_, ?_⟩
    · intro y0 y1
      unfold hibernacleref10_Form.j0
      repeat' first
      | (with_reducible exact ih0 _ _)
      | (with_reducible exact ih1 _ _)
      | (with_reducible exact ih2 _ _)
      | (with_reducible exact ih3 _ _)
      | (with_reducible exact LeO.refl _)
      | (with_reducible exact LeO.none _)
      | (with_reducible refine LeO.ite ?_ ?_)
      | (with_reducible refine LeO.bind ?_ (fun _ => ?_))
      | exact ih0 _ _
      | exact ih1 _ _
      | exact ih2 _ _
      | exact ih3 _ _
      | exact LeO.none _
      | refine LeO.ite ?_ ?_
      | refine LeO.bind ?_ (fun _ => ?_)
    · intro y0 y1
      unfold hibernacleref10_Form.j1
      repeat' first
      | (with_reducible exact ih0 _ _)
      | (with_reducible exact ih1 _ _)
      | (with_reducible exact ih2 _ _)
      | (with_reducible exact ih3 _ _)
      | (with_reducible exact LeO.refl _)
      | (with_reducible exact LeO.none _)
      | (with_reducible refine LeO.ite ?_ ?_)
      | (with_reducible refine LeO.bind ?_ (fun _ => ?_))
      | exact ih0 _ _
      | exact ih1 _ _
      | exact ih2 _ _
      | exact ih3 _ _
      | exact LeO.none _
      | refine LeO.ite ?_ ?_
      | refine LeO.bind ?_ (fun _ => ?_)
    · intro y0 y1
      unfold hibernacleref10_Form.j2
      repeat' first
      | (with_reducible exact ih0 _ _)
      | (with_reducible exact ih1 _ _)
      | (with_reducible exact ih2 _ _)
      | (with_reducible exact ih3 _ _)
      | (with_reducible exact LeO.refl _)
      | (with_reducible exact LeO.none _)
      | (with_reducible refine LeO.ite ?_ ?_)
      | (with_reducible refine LeO.bind ?_ (fun _ => ?_))
      | exact ih0 _ _
      | exact ih1 _ _
      | exact ih2 _ _
      | exact ih3 _ _
      | exact LeO.none _
      | refine LeO.ite ?_ ?_
      | refine LeO.bind ?_ (fun _ => ?_)
    · intro y0 y1
      unfold hibernacleref10_Form.j3
      repeat' first
      | (with_reducible exact ih0 _ _)
      | (with_reducible exact ih1 _ _)
      | (with_reducible exact ih2 _ _)
      | (with_reducible exact ih3 _ _)
      | (with_reducible exact LeO.refl _)
      | (with_reducible exact LeO.none _)
      | (with_reducible refine LeO.ite ?_ ?_)
      | (with_reducible refine LeO.bind ?_ (fun _ => ?_))
      | exact ih0 _ _
      | exact ih1 _ _
      | exact ih2 _ _
      | exact ih3 _ _
      | exact LeO.none _
      | refine LeO.ite ?_ ?_
      | refine LeO.bind ?_ (fun _ => ?_)
theorem hibernacleref10_Form.mono : ∀ a0 k, LeO (hibernacleref10_Form.f k a0) (hibernacleref10_Form.f (k + 1) a0) := by
  intro a0 k
  obtain ⟨ih0, ih1, ih2, ih3⟩ := hibernacleref10_Form.mono_l k
  unfold hibernacleref10_Form.f
  repeat' first
      | (with_reducible exact ih0 _ _)
      | (with_reducible exact ih1 _ _)
      | (with_reducible exact ih2 _ _)
      | (with_reducible exact ih3 _ _)
      | (with_reducible exact LeO.refl _)
      | (with_reducible exact LeO.none _)
      | (with_reducible refine LeO.ite ?_ ?_)
      | (with_reducible refine LeO.bind ?_ (fun _ => ?_))
      | exact ih0 _ _
      | exact ih1 _ _
      | exact ih2 _ _
      | exact ih3 _ _
      | exact LeO.none _
      | refine LeO.ite ?_ ?_
      | refine LeO.bind ?_ (fun _ => ?_)
def hibernacleref10_plain.f (a0 : Int) : Option (Bool) := if a0 ≥ 15 then (if a0 ≤ 17 then (some true) else (if a0 = 19 then (some true) else (some (a0 == 31)))) else (if a0 = 19 then (some true) else (some (a0 == 31)))
end Go.Proofs.YthdfkbkenklcaaaDoor.P
end
section
namespace Go.Proofs.YthdfkbkenklcaaaDoor.P
open Go.RowKit Go.Proofs.YthdfkbkenklcaaaDoorW.PrintWords Go.Proofs.YthdfkbkenklcaaaDoorW.PrintLast Go.Proofs.YthdfkbkenklcaaaDoorW.PrintMore
attribute [local go_sem] isSome_setCell_eq max2_int min2_int max_two min_two max_three min_three max_four min_four
set_option linter.unusedVariables false
set_option linter.unusedSimpArgs false
mutual
def hibernacleref10_Enc.j0 : Nat → Int → Bool → Int → Int → Int → Int → Int → Option (Int × Int)
  | 0, _, _, _, _, _, _, _ => none
  | k + 1, x4, x25, x196000, x196001, x196002, x196003, x196004 => if x25 = true then (some (0, 1)) else (if x4 = 5 then (if x196001 = 0 then (if x4 = 3 then (if x196002 = 0 then (if x4 = 1 then (hibernacleref10_Enc.j1 k x4 (x196004 != 0) x196000 x196001 x196002 x196003 x196004) else (if x196003 = 0 then (hibernacleref10_Enc.j1 k x4 false x196000 x196001 x196002 x196003 x196004) else (hibernacleref10_Enc.j1 k x4 true x196000 x196001 x196002 x196003 x196004))) else (hibernacleref10_Enc.j1 k x4 true x196000 x196001 x196002 x196003 x196004)) else (if x196002 = 0 then (if x4 = 1 then (hibernacleref10_Enc.j1 k x4 (x196004 != 0) x196000 x196001 x196002 x196003 x196004) else (if x196003 = 0 then (hibernacleref10_Enc.j1 k x4 false x196000 x196001 x196002 x196003 x196004) else (hibernacleref10_Enc.j1 k x4 true x196000 x196001 x196002 x196003 x196004))) else (hibernacleref10_Enc.j1 k x4 true x196000 x196001 x196002 x196003 x196004))) else (hibernacleref10_Enc.j1 k x4 true x196000 x196001 x196002 x196003 x196004)) else (if x4 = 3 then (if x196002 = 0 then (if x4 = 1 then (hibernacleref10_Enc.j1 k x4 (x196004 != 0) x196000 x196001 x196002 x196003 x196004) else (if x196003 = 0 then (hibernacleref10_Enc.j1 k x4 false x196000 x196001 x196002 x196003 x196004) else (hibernacleref10_Enc.j1 k x4 true x196000 x196001 x196002 x196003 x196004))) else (hibernacleref10_Enc.j1 k x4 true x196000 x196001 x196002 x196003 x196004)) else (if x4 = 1 then (hibernacleref10_Enc.j1 k x4 (x196004 != 0) x196000 x196001 x196002 x196003 x196004) else (if x196003 = 0 then (hibernacleref10_Enc.j1 k x4 false x196000 x196001 x196002 x196003 x196004) else (hibernacleref10_Enc.j1 k x4 true x196000 x196001 x196002 x196003 x196004)))))
def hibernacleref10_Enc.j1 : Nat → Int → Bool → Int → Int → Int → Int → Int → Option (Int × Int)
  | 0, _, _, _, _, _, _, _ => none
  | k + 1, x4, x63, x196000, x196001, x196002, x196003, x196004 => if x63 = true then (some (0, 1)) else (if x4 = 1 then (some (((((((((((((IntKind.u32.wrap (x196000)) * 16) % 4294967296) + (IntKind.u32.wrap (x196001))) % 4294967296) * 16) % 4294967296) + (IntKind.u32.wrap (x196002))) % 4294967296) * 262144) % 4294967296) + (((IntKind.u32.wrap (x196003)) * 16384) % 4294967296)) % 4294967296, 0)) else ((hibernacleref10_plain.f x196000).bind fun t197 => (if t197 = true then (hibernacleref10_Enc.j2 k 0 65535 x196000 x196001 x196002 x196003 x196004) else (hibernacleref10_Enc.j2 k (-32768) 32767 x196000 x196001 x196002 x196003 x196004))))
def hibernacleref10_Enc.j2 : Nat → Int → Int → Int → Int → Int → Int → Int → Option (Int × Int)
  | 0, _, _, _, _, _, _, _ => none
  | k + 1, x5, x6, x196000, x196001, x196002, x196003, x196004 => if x196004 < x5 then (hibernacleref10_Enc.j3 k true x196000 x196001 x196002 x196003 x196004) else (hibernacleref10_Enc.j3 k (decide (x196004 > x6)) x196000 x196001 x196002 x196003 x196004)
def hibernacleref10_Enc.j3 : Nat → Bool → Int → Int → Int → Int → Int → Option (Int × Int)
  | 0, _, _, _, _, _, _ => none
  | k + 1, x97, x196000, x196001, x196002, x196003, x196004 => if x97 = true then (some (0, 2)) else (if x196004 < 0 then (some (((((((((((((IntKind.u32.wrap (x196000)) * 16) % 4294967296) + (IntKind.u32.wrap (x196001))) % 4294967296) * 16) % 4294967296) + (IntKind.u32.wrap (x196002))) % 4294967296) * 262144) % 4294967296) + (IntKind.u32.wrap (wrap32 (x196004 + 65536)))) % 4294967296, 0)) else (some (((((((((((((IntKind.u32.wrap (x196000)) * 16) % 4294967296) + (IntKind.u32.wrap (x196001))) % 4294967296) * 16) % 4294967296) + (IntKind.u32.wrap (x196002))) % 4294967296) * 262144) % 4294967296) + (IntKind.u32.wrap (x196004))) % 4294967296, 0)))
end
def hibernacleref10_Enc.f (k : Nat) (a0_0 : Int) (a0_1 : Int) (a0_2 : Int) (a0_3 : Int) (a0_4 : Int) : Option (Int × Int) := (hibernacleref10_Form.f k a0_0).bind fun t196 => (if t196 = 0 then (some (0, 16)) else (if a0_1 > 15 then (hibernacleref10_Enc.j0 k t196 true a0_0 a0_1 a0_2 a0_3 a0_4) else (if a0_2 > 15 then (hibernacleref10_Enc.j0 k t196 true a0_0 a0_1 a0_2 a0_3 a0_4) else (hibernacleref10_Enc.j0 k t196 (decide (a0_3 > 15)) a0_0 a0_1 a0_2 a0_3 a0_4))))
theorem hibernacleref10_Enc.mono_l : ∀ k, (∀ y0 y1 y2 y3 y4 y5 y6, LeO (hibernacleref10_Enc.j0 k y0 y1 y2 y3 y4 y5 y6) (hibernacleref10_Enc.j0 (k + 1) y0 y1 y2 y3 y4 y5 y6)) ∧ (∀ y0 y1 y2 y3 y4 y5 y6, LeO (hibernacleref10_Enc.j1 k y0 y1 y2 y3 y4 y5 y6) (hibernacleref10_Enc.j1 (k + 1) y0 y1 y2 y3 y4 y5 y6)) ∧ (∀ y0 y1 y2 y3 y4 y5 y6, LeO (hibernacleref10_Enc.j2 k y0 y1 y2 y3 y4 y5 y6) (hibernacleref10_Enc.j2 (k + 1) y0 y1 y2 y3 y4 y5 y6)) ∧ (∀ y0 y1 y2 y3 y4 y5, LeO (hibernacleref10_Enc.j3 k y0 y1 y2 y3 y4 y5) (hibernacleref10_Enc.j3 (k + 1) y0 y1 y2 y3 y4 y5))
  | 0 => ⟨fun _ _ _ _ _ _ _ r h => by simp [hibernacleref10_Enc.j0] at h, fun _ _ _ _ _ _ _ r h => by simp [hibernacleref10_Enc.j1] at h, fun _ _ _ _ _ _ _ r h => by simp [hibernacleref10_Enc.j2] at h, fun _ _ _ _ _ _ r h => by simp [hibernacleref10_Enc.j3] at h⟩
  | k + 1 => by
    obtain ⟨ih0, ih1, ih2, ih3⟩ := hibernacleref10_Enc.mono_l k
    refine ⟨?_, ?_, ?_, ?_⟩
    · intro y0 y1 y2 y3 y4 y5 y6
      unfold hibernacleref10_Enc.j0
      repeat' first
      | (with_reducible exact ih0 _ _ _ _ _ _ _)
      | (with_reducible exact ih1 _ _ _ _ _ _ _)
      | (with_reducible exact ih2 _ _ _ _ _ _ _)
      | (with_reducible exact ih3 _ _ _ _ _ _)
      | (with_reducible exact hibernacleref10_Form.mono _ _)
      | (with_reducible exact LeO.refl _)
      | (with_reducible exact LeO.none _)
      | (with_reducible refine LeO.ite ?_ ?_)
      | (with_reducible refine LeO.bind ?_ (fun _ => ?_))
      | exact ih0 _ _ _ _ _ _ _
      | exact ih1 _ _ _ _ _ _ _
      | exact ih2 _ _ _ _ _ _ _
      | exact ih3 _ _ _ _ _ _
      | exact hibernacleref10_Form.mono _ _
      | exact LeO.none _
      | refine LeO.ite ?_ ?_
      | refine LeO.bind ?_ (fun _ => ?_)
    · intro y0 y1 y2 y3 y4 y5 y6
      unfold hibernacleref10_Enc.j1
      repeat' first
      | (with_reducible exact ih0 _ _ _ _ _ _ _)
      | (with_reducible exact ih1 _ _ _ _ _ _ _)
      | (with_reducible exact ih2 _ _ _ _ _ _ _)
      | (with_reducible exact ih3 _ _ _ _ _ _)
      | (with_reducible exact hibernacleref10_Form.mono _ _)
      | (with_reducible exact LeO.refl _)
      | (with_reducible exact LeO.none _)
      | (with_reducible refine LeO.ite ?_ ?_)
      | (with_reducible refine LeO.bind ?_ (fun _ => ?_))
      | exact ih0 _ _ _ _ _ _ _
      | exact ih1 _ _ _ _ _ _ _
      | exact ih2 _ _ _ _ _ _ _
      | exact ih3 _ _ _ _ _ _
      | exact hibernacleref10_Form.mono _ _
      | exact LeO.none _
      | refine LeO.ite ?_ ?_
      | refine LeO.bind ?_ (fun _ => ?_)
    · intro y0 y1 y2 y3 y4 y5 y6
      unfold hibernacleref10_Enc.j2
      repeat' first
      | (with_reducible exact ih0 _ _ _ _ _ _ _)
      | (with_reducible exact ih1 _ _ _ _ _ _ _)
      | (with_reducible exact ih2 _ _ _ _ _ _ _)
      | (with_reducible exact ih3 _ _ _ _ _ _)
      | (with_reducible exact hibernacleref10_Form.mono _ _)
      | (with_reducible exact LeO.refl _)
      | (with_reducible exact LeO.none _)
      | (with_reducible refine LeO.ite ?_ ?_)
      | (with_reducible refine LeO.bind ?_ (fun _ => ?_))
      | exact ih0 _ _ _ _ _ _ _
      | exact ih1 _ _ _ _ _ _ _
      | exact ih2 _ _ _ _ _ _ _
      | exact ih3 _ _ _ _ _ _
      | exact hibernacleref10_Form.mono _ _
      | exact LeO.none _
      | refine LeO.ite ?_ ?_
      | refine LeO.bind ?_ (fun _ => ?_)
    · intro y0 y1 y2 y3 y4 y5
      unfold hibernacleref10_Enc.j3
      repeat' first
      | (with_reducible exact ih0 _ _ _ _ _ _ _)
      | (with_reducible exact ih1 _ _ _ _ _ _ _)
      | (with_reducible exact ih2 _ _ _ _ _ _ _)
      | (with_reducible exact ih3 _ _ _ _ _ _)
      | (with_reducible exact hibernacleref10_Form.mono _ _)
      | (with_reducible exact LeO.refl _)
      | (with_reducible exact LeO.none _)
      | (with_reducible refine LeO.ite ?_ ?_)
      | (with_reducible refine LeO.bind ?_ (fun _ => ?_))
      | exact ih0 _ _ _ _ _ _ _
      | exact ih1 _ _ _ _ _ _ _
      | exact ih2 _ _ _ _ _ _ _
      | exact ih3 _ _ _ _ _ _
      | exact hibernacleref10_Form.mono _ _
      | exact LeO.none _
      | refine LeO.ite ?_ ?_
      | refine LeO.bind ?_ (fun _ => ?_)
theorem hibernacleref10_Enc.mono : ∀ a0 a1 a2 a3 a4 k, LeO (hibernacleref10_Enc.f k a0 a1 a2 a3 a4) (hibernacleref10_Enc.f (k + 1) a0 a1 a2 a3 a4) := by
  intro a0 a1 a2 a3 a4 k
  obtain ⟨ih0, ih1, ih2, ih3⟩ := hibernacleref10_Enc.mono_l k
  unfold hibernacleref10_Enc.f
  repeat' first
      | (with_reducible exact ih0 _ _ _ _ _ _ _)
      | (with_reducible exact ih1 _ _ _ _ _ _ _)
      | (with_reducible exact ih2 _ _ _ _ _ _ _)
      | (with_reducible exact ih3 _ _ _ _ _ _)
      | (with_reducible exact hibernacleref10_Form.mono _ _)
      | (with_reducible exact LeO.refl _)
      | (with_reducible exact LeO.none _)
      | (with_reducible refine LeO.ite ?_ ?_)
      | (with_reducible refine LeO.bind ?_ (fun _ => ?_))
      | exact ih0 _ _ _ _ _ _ _
      | exact ih1 _ _ _ _ _ _ _
      | exact ih2 _ _ _ _ _ _ _
      | exact ih3 _ _ _ _ _ _
      | exact hibernacleref10_Form.mono _ _
      | exact LeO.none _
      | refine LeO.ite ?_ ?_
      | refine LeO.bind ?_ (fun _ => ?_)
end Go.Proofs.YthdfkbkenklcaaaDoor.P
end
section
set_option linter.unusedSimpArgs false
set_option linter.unusedVariables false
namespace Go.Proofs.YthdfkbkenklcaaaDoor.Q
open Go.RowKit Go.Proofs.YthdfkbkenklcaaaDoor.P Go.Proofs.YthdfkbkenklcaaaDoorW.PrintWords Go.Proofs.YthdfkbkenklcaaaDoorW.PrintLast Go.Proofs.YthdfkbkenklcaaaDoorW.PrintMore
def numOf (o w : Int) : Int := if frm o = 114 then 0 else if pl o then w % 65536 else (w + 32768) % 65536 - 32768
def cOf (o w : Int) : Int := if frm o = 114 then (w / 16384) % 16 else 0
def parts (w : Int) : Int × Int × Int × Int × Int :=
  (w / 67108864, (w / 4194304) % 16, (w / 262144) % 16, cOf (w / 67108864) w, numOf (w / 67108864) w)
def decOf (w : Int) : Int × Int × Int × Int × Int × Bool :=
  if encOf (parts w).1 (parts w).2.1 (parts w).2.2.1 (parts w).2.2.2.1 (parts w).2.2.2.2 = (w, 0) then ((parts w).1, (parts w).2.1, (parts w).2.2.1, (parts w).2.2.2.1, (parts w).2.2.2.2, true) else (0, 0, 0, 0, 0, false)
theorem dec_fin {g : Nat → Option (Int × Int)} {o a b c n w : Int} (h : Ev g (encOf o a b c n)) :
    Ev (fun k => (g k).bind fun t => if t.2 = 0 then (if t.1 = w then some (o, a, b, c, n, true) else some (0, 0, 0, 0, 0, false)) else some (0, 0, 0, 0, 0, false))
      (if encOf o a b c n = (w, 0) then (o, a, b, c, n, true) else (0, 0, 0, 0, 0, false)) := by
  refine Ev.bind h ?_
  generalize encOf o a b c n = e
  obtain ⟨x, y⟩ := e
  by_cases h1 : y = 0
  · subst h1
    by_cases h2 : x = w
    · subst h2
      exact Ev.congr (fun k => by simp) (Ev.now _)
    · exact Ev.congr (fun k => by simp [h2]) (Ev.now _)
  · exact Ev.congr (fun k => by simp [h1]) (Ev.now _)
theorem dec_all (w : Int) (w0 : 0 ≤ w) (w1 : w < 4294967296) : Ev (fun k => isa_Dec.f k w) (decOf w) := by
  have y1 : (w / 67108864) % 256 = w / 67108864 := by omega
  have y2 : (Go.bits .and .u32 (w / 4194304) 15) % 256 = (w / 4194304) % 16 := by rw [u32_and15 (by omega) (by omega)]; omega
  have y3 : (Go.bits .and .u32 (w / 262144) 15) % 256 = (w / 262144) % 16 := by rw [u32_and15 (by omega) (by omega)]; omega
  have y4 : (Go.bits .and .u32 (w / 16384) 15) % 256 = (w / 16384) % 16 := by rw [u32_and15 (by omega) (by omega)]; omega
  have y5 : wrap32 (IntKind.u16.wrap w) = w % 65536 := by rw [u16_mod]; unfold wrap32; omega
  have y6 : wrap32 (IntKind.i16.wrap w) = (w + 32768) % 65536 - 32768 := by rw [i16_mod]; unfold wrap32; omega
  unfold isa_Dec.f decOf parts
  simp only [y1, y2, y3, y4, y5, y6, form_eq (w / 67108864) (by omega) (by omega), Option.bind_some, has_eq]
  have he := fun c n (c0 : 0 ≤ c) => enc_ev (w / 67108864) ((w / 4194304) % 16) ((w / 262144) % 16) c n (by omega) (by omega) (by omega) (by omega) c0
  by_cases hr : frm (w / 67108864) = 114
  · have e1 : cOf (w / 67108864) w = (w / 16384) % 16 := by unfold cOf; rw [if_pos hr]
    have e2 : numOf (w / 67108864) w = 0 := by unfold numOf; rw [if_pos hr]
    rw [e1, e2]
    exact Ev.congr (fun k => if_pos (by simp [hr])) (dec_fin (he _ _ (by omega)))
  · have e1 : cOf (w / 67108864) w = 0 := by unfold cOf; rw [if_neg hr]
    have e2 : numOf (w / 67108864) w = if pl (w / 67108864) = true then w % 65536 else (w + 32768) % 65536 - 32768 := by unfold numOf; rw [if_neg hr]
    rw [e1, e2]
    refine Ev.congr (fun k => if_neg (by simp [hr])) (Ev.congr (fun k => if_pos (by simp [hr])) ?_)
    unfold strings_IndexByte.f pl
    simp only [Option.bind_some]
    by_cases hp : Lib.indexByte (⟨#[15, 16, 17, 19, 31]⟩ : ByteArray).data.toList (w / 67108864).toNat.toUInt8 ≥ 0
    · rw [if_pos (decide_eq_true hp)]
      exact Ev.congr (fun k => if_pos hp) (dec_fin (he _ _ (by omega)))
    · rw [decide_eq_false hp, if_neg Bool.false_ne_true]
      exact Ev.congr (fun k => if_neg hp) (dec_fin (he _ _ (by omega)))
end Go.Proofs.YthdfkbkenklcaaaDoor.Q
end
section
namespace Go.Proofs.YthdfkbkenklcaaaDoor.P
open Go.RowKit Go.Proofs.YthdfkbkenklcaaaDoorW.PrintWords Go.Proofs.YthdfkbkenklcaaaDoorW.PrintLast Go.Proofs.YthdfkbkenklcaaaDoorW.PrintMore
attribute [local go_sem] isSome_setCell_eq max2_int min2_int max_two min_two max_three min_three max_four min_four
set_option linter.unusedVariables false
set_option linter.unusedSimpArgs false
theorem eqA23 (d : Nat) (w : World) (x0 y0 : Int) (x1 y1 : Int) (x2 y2 : Int) (x3 y3 : Int) (x4 y4 : Int) :
    (Op.equalIn (d + 2) 23 (.agg #[.int .u8 x0, .int .u8 x1, .int .u8 x2, .int .u8 x3, .int .i32 x4]) (.agg #[.int .u8 y0, .int .u8 y1, .int .u8 y2, .int .u8 y3, .int .i32 y4])).run Tryd.prog w = .ok (x0 == y0 && (x1 == y1 && (x2 == y2 && (x3 == y3 && (x4 == y4))))) w := by
  refine eqA_of Tryd.underlying23 (by kernel_rfl) ?_
  refine eqf_cons (by rfl) (by go_simp; rfl) (by go_simp; rfl) (by go_simp) ?_
  refine eqf_cons (by rfl) (by go_simp; rfl) (by go_simp; rfl) (by go_simp) ?_
  refine eqf_cons (by rfl) (by go_simp; rfl) (by go_simp; rfl) (by go_simp) ?_
  refine eqf_cons (by rfl) (by go_simp; rfl) (by go_simp; rfl) (by go_simp) ?_
  exact eqf_last (by rfl) (by go_simp; rfl) (by go_simp; rfl) (by go_simp)
end Go.Proofs.YthdfkbkenklcaaaDoor.P
end
section
namespace Go.Proofs.YthdfkbkenklcaaaDoor.P
open Go.RowKit Go.Proofs.YthdfkbkenklcaaaDoorW.PrintWords Go.Proofs.YthdfkbkenklcaaaDoorW.PrintLast Go.Proofs.YthdfkbkenklcaaaDoorW.PrintMore
attribute [local go_sem] isSome_setCell_eq max2_int min2_int max_two min_two max_three min_three max_four min_four
set_option linter.unusedVariables false
set_option linter.unusedSimpArgs false
attribute [local go_sem high] eqA23
def hibernaclelaw10_IsaUnlike.j0 : Nat → Int → Int → Int → Bool → Int → Int → Int → Int → Int → Int → Int → Int → Int → Int → Option (Bool)
  | 0, _, _, _, _, _, _, _, _, _, _, _, _, _, _ => none
  | k + 1, x5, x6, x7, x26, x239000, x239001, x239002, x239003, x239004, x240000, x240001, x240002, x240003, x240004 => if x26 = true then (if x6 = 0 then (some true) else ((isa_Text.f k x239000 x239001 x239002 x239003 x239004).bind fun t245 => (some (t245.toList == ([] : List UInt8))))) else (if ((x5 == x7) == (x239000 == x240000 && (x239001 == x240001 && (x239002 == x240002 && (x239003 == x240003 && (x239004 == x240004)))))) = true then ((isa_Text.f k x239000 x239001 x239002 x239003 x239004).bind fun t246 => ((isa_Text.f k x240000 x240001 x240002 x240003 x240004).bind fun t247 => (some ((t246.toList == t247.toList) == (x239000 == x240000 && (x239001 == x240001 && (x239002 == x240002 && (x239003 == x240003 && (x239004 == x240004))))))))) else (some false))
def hibernaclelaw10_IsaUnlike.f (k : Nat) (a0_0 : Int) (a0_1 : Int) (a0_2 : Int) (a0_3 : Int) (a0_4 : Int) (a1_0 : Int) (a1_1 : Int) (a1_2 : Int) (a1_3 : Int) (a1_4 : Int) : Option (Bool) := (hibernaclelaw10_alive.f k).bind fun t240 => (if t240 = true then ((isa_Enc.f k a0_0 a0_1 a0_2 a0_3 a0_4).bind fun bt241 => ((isa_Enc.f k a1_0 a1_1 a1_2 a1_3 a1_4).bind fun bt243 => (if bt241.2 = 0 then (hibernaclelaw10_IsaUnlike.j0 k bt241.1 bt241.2 bt243.1 (bt243.2 != 0) a0_0 a0_1 a0_2 a0_3 a0_4 a1_0 a1_1 a1_2 a1_3 a1_4) else (hibernaclelaw10_IsaUnlike.j0 k bt241.1 bt241.2 bt243.1 true a0_0 a0_1 a0_2 a0_3 a0_4 a1_0 a1_1 a1_2 a1_3 a1_4)))) else (some false))
theorem hibernaclelaw10_IsaUnlike.mono_l : ∀ k, (∀ y0 y1 y2 y3 y4 y5 y6 y7 y8 y9 y10 y11 y12 y13, LeO (hibernaclelaw10_IsaUnlike.j0 k y0 y1 y2 y3 y4 y5 y6 y7 y8 y9 y10 y11 y12 y13) (hibernaclelaw10_IsaUnlike.j0 (k + 1) y0 y1 y2 y3 y4 y5 y6 y7 y8 y9 y10 y11 y12 y13))
  | 0 => fun _ _ _ _ _ _ _ _ _ _ _ _ _ _ r h => by simp [hibernaclelaw10_IsaUnlike.j0] at h
  | k + 1 => by
    have ih0 := hibernaclelaw10_IsaUnlike.mono_l k
    · intro y0 y1 y2 y3 y4 y5 y6 y7 y8 y9 y10 y11 y12 y13
      unfold hibernaclelaw10_IsaUnlike.j0
      repeat' first
      | (with_reducible exact ih0 _ _ _ _ _ _ _ _ _ _ _ _ _ _)
      | (with_reducible exact hibernaclelaw10_alive.mono _)
      | (with_reducible exact isa_Enc.mono _ _ _ _ _ _)
      | (with_reducible exact isa_Text.mono _ _ _ _ _ _)
      | (with_reducible exact LeO.refl _)
      | (with_reducible exact LeO.none _)
      | (with_reducible refine LeO.ite ?_ ?_)
      | (with_reducible refine LeO.bind ?_ (fun _ => ?_))
      | exact ih0 _ _ _ _ _ _ _ _ _ _ _ _ _ _
      | exact hibernaclelaw10_alive.mono _
      | exact isa_Enc.mono _ _ _ _ _ _
      | exact isa_Text.mono _ _ _ _ _ _
      | exact LeO.none _
      | refine LeO.ite ?_ ?_
      | refine LeO.bind ?_ (fun _ => ?_)
theorem hibernaclelaw10_IsaUnlike.mono : ∀ a0 a1 a2 a3 a4 a5 a6 a7 a8 a9 k, LeO (hibernaclelaw10_IsaUnlike.f k a0 a1 a2 a3 a4 a5 a6 a7 a8 a9) (hibernaclelaw10_IsaUnlike.f (k + 1) a0 a1 a2 a3 a4 a5 a6 a7 a8 a9) := by
  intro a0 a1 a2 a3 a4 a5 a6 a7 a8 a9 k
  have ih0 := hibernaclelaw10_IsaUnlike.mono_l k
  unfold hibernaclelaw10_IsaUnlike.f
  repeat' first
      | (with_reducible exact ih0 _ _ _ _ _ _ _ _ _ _ _ _ _ _)
      | (with_reducible exact hibernaclelaw10_alive.mono _)
      | (with_reducible exact isa_Enc.mono _ _ _ _ _ _)
      | (with_reducible exact isa_Text.mono _ _ _ _ _ _)
      | (with_reducible exact LeO.refl _)
      | (with_reducible exact LeO.none _)
      | (with_reducible refine LeO.ite ?_ ?_)
      | (with_reducible refine LeO.bind ?_ (fun _ => ?_))
      | exact ih0 _ _ _ _ _ _ _ _ _ _ _ _ _ _
      | exact hibernaclelaw10_alive.mono _
      | exact isa_Enc.mono _ _ _ _ _ _
      | exact isa_Text.mono _ _ _ _ _ _
      | exact LeO.none _
      | refine LeO.ite ?_ ?_
      | refine LeO.bind ?_ (fun _ => ?_)
def hibernaclelaw10_IsaBits.f (k : Nat) (a0 : Int) (a1 : Int) : Option (Bool) := (hibernaclelaw10_alive.f k).bind fun t248 => (if t248 = true then ((isa_Dec.f k a0).bind fun bt249 => (if 0 ≤ (Int.tmod a1 32) then ((isa_Dec.f k (Go.bits .xor .u32 a0 (shl .u32 1 (Int.tmod a1 32)))).bind fun bt256 => (if bt249.2.2.2.2.2 = true then (if bt256.2.2.2.2.2 = true then (some (!(bt249.1 == bt256.1) || (!(bt249.2.1 == bt256.2.1) || (!(bt249.2.2.1 == bt256.2.2.1) || (!(bt249.2.2.2.1 == bt256.2.2.2.1) || (!(bt249.2.2.2.2.1 == bt256.2.2.2.2.1))))))) else (some true)) else (some true))) else (none))) else (some false))
theorem hibernaclelaw10_IsaBits.mono : ∀ a0 a1 k, LeO (hibernaclelaw10_IsaBits.f k a0 a1) (hibernaclelaw10_IsaBits.f (k + 1) a0 a1) := by
  intro a0 a1 k
  unfold hibernaclelaw10_IsaBits.f
  repeat' first
      | (with_reducible exact hibernaclelaw10_alive.mono _)
      | (with_reducible exact isa_Dec.mono _ _)
      | (with_reducible exact LeO.refl _)
      | (with_reducible exact LeO.none _)
      | (with_reducible refine LeO.ite ?_ ?_)
      | (with_reducible refine LeO.bind ?_ (fun _ => ?_))
      | exact hibernaclelaw10_alive.mono _
      | exact isa_Dec.mono _ _
      | exact LeO.none _
      | refine LeO.ite ?_ ?_
      | refine LeO.bind ?_ (fun _ => ?_)
def hibernacleref10_names.f  : Option (List ByteArray) := some (([(⟨#[97, 100, 100]⟩ : ByteArray), (⟨#[115, 117, 98]⟩ : ByteArray), (⟨#[109, 117, 108]⟩ : ByteArray), (⟨#[100, 105, 118]⟩ : ByteArray), (⟨#[114, 101, 109]⟩ : ByteArray), (⟨#[97, 110, 100]⟩ : ByteArray), (⟨#[111, 114]⟩ : ByteArray), (⟨#[120, 111, 114]⟩ : ByteArray), (⟨#[115, 104, 108]⟩ : ByteArray), (⟨#[115, 104, 114]⟩ : ByteArray), (⟨#[115, 97, 114]⟩ : ByteArray), (⟨#[115, 108, 116]⟩ : ByteArray), (⟨#[115, 108, 116, 117]⟩ : ByteArray), (⟨#[97, 100, 100, 105]⟩ : ByteArray), (⟨#[97, 110, 100, 105]⟩ : ByteArray), (⟨#[111, 114, 105]⟩ : ByteArray), (⟨#[120, 111, 114, 105]⟩ : ByteArray), (⟨#[115, 108, 116, 105]⟩ : ByteArray), (⟨#[108, 117, 105]⟩ : ByteArray), (⟨#[108, 119]⟩ : ByteArray), (⟨#[108, 98]⟩ : ByteArray), (⟨#[108, 98, 117]⟩ : ByteArray), (⟨#[115, 119]⟩ : ByteArray), (⟨#[115, 98]⟩ : ByteArray), (⟨#[98, 101, 113]⟩ : ByteArray), (⟨#[98, 110, 101]⟩ : ByteArray), (⟨#[98, 108, 116]⟩ : ByteArray), (⟨#[98, 108, 116, 117]⟩ : ByteArray), (⟨#[106, 97, 108]⟩ : ByteArray), (⟨#[106, 97, 108, 114]⟩ : ByteArray), (⟨#[115, 121, 115]⟩ : ByteArray)] : List ByteArray))
def hibernacleref10_dec.f : Nat → Int → Option (ByteArray)
  | 0, _ => none
  | k + 1, a0 => if a0 < 0 then ((hibernacleref10_dec.f k (wrap32 (-a0))).bind fun t282 => (if 1 + t282.size ≤ 9223372036854775807 then (some ((⟨#[45]⟩ : ByteArray) ++ t282)) else (none))) else (if a0 < 10 then (if 0 ≤ a0 then (if a0 ≤ (wrap32 (a0 + 1)) then (if (wrap32 (a0 + 1)) ≤ 10 then (some ((⟨#[48, 49, 50, 51, 52, 53, 54, 55, 56, 57]⟩ : ByteArray).extract (a0 : Int).toNat ((wrap32 (a0 + 1)) : Int).toNat)) else (none)) else (none)) else (none)) else ((hibernacleref10_dec.f k (wrap32 (Int.tdiv a0 10))).bind fun t283 => ((hibernacleref10_dec.f k (Int.tmod a0 10)).bind fun t284 => (if t283.size + t284.size ≤ 9223372036854775807 then (some (t283 ++ t284)) else (none)))))
theorem hibernacleref10_dec.mono_l : ∀ k, (∀ y0, LeO (hibernacleref10_dec.f k y0) (hibernacleref10_dec.f (k + 1) y0))
  | 0 => fun _ r h => by simp [hibernacleref10_dec.f] at h
  | k + 1 => by
    have ih0 := hibernacleref10_dec.mono_l k
    · intro y0
      unfold hibernacleref10_dec.f
      repeat' first
      | (with_reducible exact ih0 _)
      | (with_reducible exact LeO.refl _)
      | (with_reducible exact LeO.none _)
      | (with_reducible refine LeO.ite ?_ ?_)
      | (with_reducible refine LeO.bind ?_ (fun _ => ?_))
      | exact ih0 _
      | exact LeO.none _
      | refine LeO.ite ?_ ?_
      | refine LeO.bind ?_ (fun _ => ?_)
theorem hibernacleref10_dec.mono : ∀ a0 k, LeO (hibernacleref10_dec.f k a0) (hibernacleref10_dec.f (k + 1) a0) := by
  intro a0 k
  have ih0 := hibernacleref10_dec.mono_l k
  exact ih0 a0
def hibernacleref10_reg.f (k : Nat) (a0 : Int) : Option (ByteArray) := (hibernacleref10_dec.f k (wrap32 (a0))).bind fun t285 => (if 1 + t285.size ≤ 9223372036854775807 then (some ((⟨#[114]⟩ : ByteArray) ++ t285)) else (none))
theorem hibernacleref10_reg.mono : ∀ a0 k, LeO (hibernacleref10_reg.f k a0) (hibernacleref10_reg.f (k + 1) a0) := by
  intro a0 k
  unfold hibernacleref10_reg.f
  repeat' first
      | (with_reducible exact hibernacleref10_dec.mono _ _)
      | (with_reducible exact LeO.refl _)
      | (with_reducible exact LeO.none _)
      | (with_reducible refine LeO.ite ?_ ?_)
      | (with_reducible refine LeO.bind ?_ (fun _ => ?_))
      | exact hibernacleref10_dec.mono _ _
      | exact LeO.none _
      | refine LeO.ite ?_ ?_
      | refine LeO.bind ?_ (fun _ => ?_)
end Go.Proofs.YthdfkbkenklcaaaDoor.P
end
section
namespace Go.Proofs.YthdfkbkenklcaaaDoor.P
open Go.RowKit Go.Proofs.YthdfkbkenklcaaaDoorW.PrintWords Go.Proofs.YthdfkbkenklcaaaDoorW.PrintLast Go.Proofs.YthdfkbkenklcaaaDoorW.PrintMore
attribute [local go_sem] isSome_setCell_eq max2_int min2_int max_two min_two max_three min_three max_four min_four
set_option linter.unusedVariables false
set_option linter.unusedSimpArgs false
def hibernacleref10_Text.f (k : Nat) (a0_0 : Int) (a0_1 : Int) (a0_2 : Int) (a0_3 : Int) (a0_4 : Int) : Option (ByteArray) := (hibernacleref10_Enc.f k a0_0 a0_1 a0_2 a0_3 a0_4).bind fun bt287 => (if bt287.2 = 0 then ((hibernacleref10_names.f).bind fun t289 => (if 0 ≤ ((a0_0 - 1) % 256) then (if ((a0_0 - 1) % 256) < (t289.length : Int) then (if (rdOf ByteArray.empty t289 ((a0_0 - 1) % 256)).size + 1 ≤ 9223372036854775807 then ((hibernacleref10_Form.f k a0_0).bind fun t293 => (if t293 = 1 then ((hibernacleref10_reg.f k a0_1).bind fun t294 => (if ((rdOf ByteArray.empty t289 ((a0_0 - 1) % 256)) ++ (⟨#[32]⟩ : ByteArray)).size + t294.size ≤ 9223372036854775807 then (if (((rdOf ByteArray.empty t289 ((a0_0 - 1) % 256)) ++ (⟨#[32]⟩ : ByteArray)) ++ t294).size + 2 ≤ 9223372036854775807 then ((hibernacleref10_reg.f k a0_2).bind fun t295 => (if ((((rdOf ByteArray.empty t289 ((a0_0 - 1) % 256)) ++ (⟨#[32]⟩ : ByteArray)) ++ t294) ++ (⟨#[44, 32]⟩ : ByteArray)).size + t295.size ≤ 9223372036854775807 then (if (((((rdOf ByteArray.empty t289 ((a0_0 - 1) % 256)) ++ (⟨#[32]⟩ : ByteArray)) ++ t294) ++ (⟨#[44, 32]⟩ : ByteArray)) ++ t295).size + 2 ≤ 9223372036854775807 then ((hibernacleref10_reg.f k a0_3).bind fun t296 => (if ((((((rdOf ByteArray.empty t289 ((a0_0 - 1) % 256)) ++ (⟨#[32]⟩ : ByteArray)) ++ t294) ++ (⟨#[44, 32]⟩ : ByteArray)) ++ t295) ++ (⟨#[44, 32]⟩ : ByteArray)).size + t296.size ≤ 9223372036854775807 then (some (((((((rdOf ByteArray.empty t289 ((a0_0 - 1) % 256)) ++ (⟨#[32]⟩ : ByteArray)) ++ t294) ++ (⟨#[44, 32]⟩ : ByteArray)) ++ t295) ++ (⟨#[44, 32]⟩ : ByteArray)) ++ t296)) else (none))) else (none)) else (none))) else (none)) else (none))) else (if t293 = 2 then ((hibernacleref10_reg.f k a0_1).bind fun t297 => (if ((rdOf ByteArray.empty t289 ((a0_0 - 1) % 256)) ++ (⟨#[32]⟩ : ByteArray)).size + t297.size ≤ 9223372036854775807 then (if (((rdOf ByteArray.empty t289 ((a0_0 - 1) % 256)) ++ (⟨#[32]⟩ : ByteArray)) ++ t297).size + 2 ≤ 9223372036854775807 then ((hibernacleref10_reg.f k a0_2).bind fun t298 => (if ((((rdOf ByteArray.empty t289 ((a0_0 - 1) % 256)) ++ (⟨#[32]⟩ : ByteArray)) ++ t297) ++ (⟨#[44, 32]⟩ : ByteArray)).size + t298.size ≤ 9223372036854775807 then (if (((((rdOf ByteArray.empty t289 ((a0_0 - 1) % 256)) ++ (⟨#[32]⟩ : ByteArray)) ++ t297) ++ (⟨#[44, 32]⟩ : ByteArray)) ++ t298).size + 2 ≤ 9223372036854775807 then ((hibernacleref10_dec.f k a0_4).bind fun t299 => (if ((((((rdOf ByteArray.empty t289 ((a0_0 - 1) % 256)) ++ (⟨#[32]⟩ : ByteArray)) ++ t297) ++ (⟨#[44, 32]⟩ : ByteArray)) ++ t298) ++ (⟨#[44, 32]⟩ : ByteArray)).size + t299.size ≤ 9223372036854775807 then (some (((((((rdOf ByteArray.empty t289 ((a0_0 - 1) % 256)) ++ (⟨#[32]⟩ : ByteArray)) ++ t297) ++ (⟨#[44, 32]⟩ : ByteArray)) ++ t298) ++ (⟨#[44, 32]⟩ : ByteArray)) ++ t299)) else (none))) else (none)) else (none))) else (none)) else (none))) else (if t293 = 3 then ((hibernacleref10_reg.f k a0_1).bind fun t300 => (if ((rdOf ByteArray.empty t289 ((a0_0 - 1) % 256)) ++ (⟨#[32]⟩ : ByteArray)).size + t300.size ≤ 9223372036854775807 then (if (((rdOf ByteArray.empty t289 ((a0_0 - 1) % 256)) ++ (⟨#[32]⟩ : ByteArray)) ++ t300).size + 2 ≤ 9223372036854775807 then ((hibernacleref10_dec.f k a0_4).bind fun t301 => (if ((((rdOf ByteArray.empty t289 ((a0_0 - 1) % 256)) ++ (⟨#[32]⟩ : ByteArray)) ++ t300) ++ (⟨#[44, 32]⟩ : ByteArray)).size + t301.size ≤ 9223372036854775807 then (some (((((rdOf ByteArray.empty t289 ((a0_0 - 1) % 256)) ++ (⟨#[32]⟩ : ByteArray)) ++ t300) ++ (⟨#[44, 32]⟩ : ByteArray)) ++ t301)) else (none))) else (none)) else (none))) else (if t293 = 4 then ((hibernacleref10_reg.f k a0_1).bind fun t302 => (if ((rdOf ByteArray.empty t289 ((a0_0 - 1) % 256)) ++ (⟨#[32]⟩ : ByteArray)).size + t302.size ≤ 9223372036854775807 then (if (((rdOf ByteArray.empty t289 ((a0_0 - 1) % 256)) ++ (⟨#[32]⟩ : ByteArray)) ++ t302).size + 2 ≤ 9223372036854775807 then ((hibernacleref10_dec.f k a0_4).bind fun t303 => (if ((((rdOf ByteArray.empty t289 ((a0_0 - 1) % 256)) ++ (⟨#[32]⟩ : ByteArray)) ++ t302) ++ (⟨#[44, 32]⟩ : ByteArray)).size + t303.size ≤ 9223372036854775807 then (if (((((rdOf ByteArray.empty t289 ((a0_0 - 1) % 256)) ++ (⟨#[32]⟩ : ByteArray)) ++ t302) ++ (⟨#[44, 32]⟩ : ByteArray)) ++ t303).size + 1 ≤ 9223372036854775807 then ((hibernacleref10_reg.f k a0_2).bind fun t304 => (if ((((((rdOf ByteArray.empty t289 ((a0_0 - 1) % 256)) ++ (⟨#[32]⟩ : ByteArray)) ++ t302) ++ (⟨#[44, 32]⟩ : ByteArray)) ++ t303) ++ (⟨#[40]⟩ : ByteArray)).size + t304.size ≤ 9223372036854775807 then (if (((((((rdOf ByteArray.empty t289 ((a0_0 - 1) % 256)) ++ (⟨#[32]⟩ : ByteArray)) ++ t302) ++ (⟨#[44, 32]⟩ : ByteArray)) ++ t303) ++ (⟨#[40]⟩ : ByteArray)) ++ t304).size + 1 ≤ 9223372036854775807 then (some ((((((((rdOf ByteArray.empty t289 ((a0_0 - 1) % 256)) ++ (⟨#[32]⟩ : ByteArray)) ++ t302) ++ (⟨#[44, 32]⟩ : ByteArray)) ++ t303) ++ (⟨#[40]⟩ : ByteArray)) ++ t304) ++ (⟨#[41]⟩ : ByteArray))) else (none)) else (none))) else (none)) else (none))) else (none)) else (none))) else ((hibernacleref10_dec.f k a0_4).bind fun t305 => (if ((rdOf ByteArray.empty t289 ((a0_0 - 1) % 256)) ++ (⟨#[32]⟩ : ByteArray)).size + t305.size ≤ 9223372036854775807 then (some (((rdOf ByteArray.empty t289 ((a0_0 - 1) % 256)) ++ (⟨#[32]⟩ : ByteArray)) ++ t305)) else (none)))))))) else (none)) else (none)) else (none))) else (some (⟨#[]⟩ : ByteArray)))
theorem hibernacleref10_Text.mono : ∀ a0 a1 a2 a3 a4 k, LeO (hibernacleref10_Text.f k a0 a1 a2 a3 a4) (hibernacleref10_Text.f (k + 1) a0 a1 a2 a3 a4) := by
  intro a0 a1 a2 a3 a4 k
  unfold hibernacleref10_Text.f
  repeat' first
      | (with_reducible exact hibernacleref10_Enc.mono _ _ _ _ _ _)
      | (with_reducible exact hibernacleref10_Form.mono _ _)
      | (with_reducible exact hibernacleref10_dec.mono _ _)
      | (with_reducible exact hibernacleref10_reg.mono _ _)
      | (with_reducible exact LeO.refl _)
      | (with_reducible exact LeO.none _)
      | (with_reducible refine LeO.ite ?_ ?_)
      | (with_reducible refine LeO.bind ?_ (fun _ => ?_))
      | exact hibernacleref10_Enc.mono _ _ _ _ _ _
      | exact hibernacleref10_Form.mono _ _
      | exact hibernacleref10_dec.mono _ _
      | exact hibernacleref10_reg.mono _ _
      | exact LeO.none _
      | refine LeO.ite ?_ ?_
      | refine LeO.bind ?_ (fun _ => ?_)
def hibernacleref10_Text.T9 : Bool × List (List Nat × List Nat) := (true, [([], []), ([], []), ([1], [1]), ([2], [2]), ([0, 3], [0, 3]), ([4], [4]), ([], []), ([6], [6]), ([7, 3], [7]), ([5, 8], [5, 8]), ([9], [9]), ([], []), ([11], [11]), ([12, 8], [12]), ([10, 13], [10, 13]), ([14, 13, 0, 1, 2, 3, 4, 5, 6, 7, 8, 9, 10, 11, 12, 13, 14], [14])])
def hibernacleref10_Text.B9 : List Nat := [0, 0, 2, 6, 15, 31, 0, 64, 206, 511, 1023, 0, 2048, 6606, 16383, 32767]
theorem hibernacleref10_Text.tab9 : rtab .any (opsOf Tryd.f16 9) = hibernacleref10_Text.T9 := by kernel_rfl
theorem hibernacleref10_Text.bits9 : waitsOk hibernacleref10_Text.T9.2 hibernacleref10_Text.B9 = true := by kernel_rfl
def hibernacleref10_Text.T11 : Bool × List (List Nat × List Nat) := (true, [([], []), ([], []), ([1], [1]), ([2], [2]), ([0, 3], [0, 3]), ([4], [4]), ([], []), ([6], [6]), ([7, 3], [7]), ([5, 8], [5, 8]), ([9, 8, 0, 1, 2, 3, 4, 5, 6, 7, 8, 9], [9])])
def hibernacleref10_Text.B11 : List Nat := [0, 0, 2, 6, 15, 31, 0, 64, 206, 511, 1023]
theorem hibernacleref10_Text.tab11 : rtab .any (opsOf Tryd.f16 11) = hibernacleref10_Text.T11 := by kernel_rfl
theorem hibernacleref10_Text.bits11 : waitsOk hibernacleref10_Text.T11.2 hibernacleref10_Text.B11 = true := by kernel_rfl
end Go.Proofs.YthdfkbkenklcaaaDoor.P
end
section
set_option linter.unusedSimpArgs false
set_option linter.unusedVariables false
namespace Go.Proofs.YthdfkbkenklcaaaDoor.Q
open Go.RowKit Go.Proofs.YthdfkbkenklcaaaDoor.P Go.Proofs.YthdfkbkenklcaaaDoorW.PrintWords Go.Proofs.YthdfkbkenklcaaaDoorW.PrintLast Go.Proofs.YthdfkbkenklcaaaDoorW.PrintMore
def nmL : List ByteArray := [(⟨#[97, 100, 100]⟩ : ByteArray), (⟨#[115, 117, 98]⟩ : ByteArray), (⟨#[109, 117, 108]⟩ : ByteArray), (⟨#[100, 105, 118]⟩ : ByteArray), (⟨#[114, 101, 109]⟩ : ByteArray), (⟨#[97, 110, 100]⟩ : ByteArray), (⟨#[111, 114]⟩ : ByteArray), (⟨#[120, 111, 114]⟩ : ByteArray), (⟨#[115, 104, 108]⟩ : ByteArray), (⟨#[115, 104, 114]⟩ : ByteArray), (⟨#[115, 97, 114]⟩ : ByteArray), (⟨#[115, 108, 116]⟩ : ByteArray), (⟨#[115, 108, 116, 117]⟩ : ByteArray), (⟨#[97, 100, 100, 105]⟩ : ByteArray), (⟨#[97, 110, 100, 105]⟩ : ByteArray), (⟨#[111, 114, 105]⟩ : ByteArray), (⟨#[120, 111, 114, 105]⟩ : ByteArray), (⟨#[115, 108, 116, 105]⟩ : ByteArray), (⟨#[108, 117, 105]⟩ : ByteArray), (⟨#[108, 119]⟩ : ByteArray), (⟨#[108, 98]⟩ : ByteArray), (⟨#[108, 98, 117]⟩ : ByteArray), (⟨#[115, 119]⟩ : ByteArray), (⟨#[115, 98]⟩ : ByteArray), (⟨#[98, 101, 113]⟩ : ByteArray), (⟨#[98, 110, 101]⟩ : ByteArray), (⟨#[98, 108, 116]⟩ : ByteArray), (⟨#[98, 108, 116, 117]⟩ : ByteArray), (⟨#[106, 97, 108]⟩ : ByteArray), (⟨#[106, 97, 108, 114]⟩ : ByteArray), (⟨#[115, 121, 115]⟩ : ByteArray)]
def namesB : ByteArray := (⟨#[97, 100, 100, 32, 115, 117, 98, 32, 109, 117, 108, 32, 100, 105, 118, 32, 114, 101, 109, 32, 97, 110, 100, 32, 111, 114, 32, 120, 111, 114, 32, 115, 104, 108, 32, 115, 104, 114, 32, 115, 97, 114, 32, 115, 108, 116, 32, 115, 108, 116, 117, 32, 97, 100, 100, 105, 32, 97, 110, 100, 105, 32, 111, 114, 105, 32, 120, 111, 114, 105, 32, 115, 108, 116, 105, 32, 108, 117, 105, 32, 108, 119, 32, 108, 98, 32, 108, 98, 117, 32, 115, 119, 32, 115, 98, 32, 98, 101, 113, 32, 98, 110, 101, 32, 98, 108, 116, 32, 98, 108, 116, 117, 32, 106, 97, 108, 32, 106, 97, 108, 114, 32, 115, 121, 115]⟩ : ByteArray)
theorem split_eq : strings_Split.f namesB (⟨#[32]⟩ : ByteArray) = some nmL := by kernel_rfl
def nm (o : Int) : ByteArray := rdOf ByteArray.empty nmL (o - 1)
def itb (n : Int) : ByteArray := ⟨(Lib.itoa n).toArray⟩
def rg (n : Int) : ByteArray := (⟨#[114]⟩ : ByteArray) ++ itb n
def txt (o a b c n : Int) : ByteArray :=
  if (encOf o a b c n).2 = 0 then
    (if frm o = 114 then nm o ++ (⟨#[32]⟩ : ByteArray) ++ rg a ++ (⟨#[44, 32]⟩ : ByteArray) ++ rg b ++ (⟨#[44, 32]⟩ : ByteArray) ++ rg c
    else if frm o = 105 then nm o ++ (⟨#[32]⟩ : ByteArray) ++ rg a ++ (⟨#[44, 32]⟩ : ByteArray) ++ rg b ++ (⟨#[44, 32]⟩ : ByteArray) ++ itb n
    else if frm o = 108 then nm o ++ (⟨#[32]⟩ : ByteArray) ++ rg a ++ (⟨#[44, 32]⟩ : ByteArray) ++ itb n
    else if frm o = 109 then nm o ++ (⟨#[32]⟩ : ByteArray) ++ rg a ++ (⟨#[44, 32]⟩ : ByteArray) ++ itb n ++ (⟨#[40]⟩ : ByteArray) ++ rg b ++ (⟨#[41]⟩ : ByteArray)
    else nm o ++ (⟨#[32]⟩ : ByteArray) ++ itb n)
  else (⟨#[]⟩ : ByteArray)
theorem itb_size (n : Int) (h0 : -9223372036854775808 ≤ n) (h1 : n ≤ 9223372036854775807) : (itb n).size ≤ 21 := by
  have := Lib.itoa_length_le n h0 h1
  show (Lib.itoa n).toArray.size ≤ 21
  simpa using this
theorem rg_size (n : Int) (h0 : -9223372036854775808 ≤ n) (h1 : n ≤ 9223372036854775807) : (rg n).size ≤ 22 := by
  have := itb_size n h0 h1
  unfold rg
  rw [ByteArray.size_append]
  have : (⟨#[114]⟩ : ByteArray).size = 1 := rfl
  omega
theorem nm_sizes : ∀ m : Fin 31, (nm ((m.val : Int) + 1)).size ≤ 5 := by decide +kernel
theorem nm_size (o : Int) (h0 : 1 ≤ o) (h1 : o ≤ 31) : (nm o).size ≤ 5 := by
  have := nm_sizes ⟨(o - 1).toNat, by omega⟩
  have e : (((o - 1).toNat : Nat) : Int) + 1 = o := by omega
  simp only [e] at this
  exact this
theorem itoa_eq (n : Int) (h0 : -9223372036854775808 ≤ n) (h1 : n ≤ 9223372036854775807) : strconv_Itoa_27.f n = some (itb n) := by
  unfold strconv_Itoa_27.f
  rw [if_pos ⟨h0, h1⟩]; rfl
theorem reg_eq (n : Int) (h0 : 0 ≤ n) (h1 : n < 256) : isa_Text_1.f n = some (rg n) := by
  unfold isa_Text_1.f
  rw [wrap64_id (by omega) (by omega), itoa_eq n (by omega) (by omega), Option.bind_some]
  have := itb_size n (by omega) (by omega)
  rw [if_pos (by omega)]; rfl
theorem app_assoc (x y z : ByteArray) : x ++ y ++ z = x ++ (y ++ z) := by
  apply ByteArray.ext; simp [ByteArray.data_append]
theorem join_list (l : List ByteArray) (s : ByteArray) (r : ByteArray) (h1 : 1 ≤ l.length) (h2 : l.length ≤ 1000) (h3 : (⟨(Lib.join (l.map (·.data.toList)) s.data.toList).toArray⟩ : ByteArray) = r) (h4 : r.size ≤ 100000) : strings_Join.f l s = some r := by
  unfold strings_Join.f
  have : (Lib.join (l.map (·.data.toList)) s.data.toList).length = r.size := by rw [← h3]; show _ = (Lib.join _ _).toArray.size; simp
  rw [if_pos ⟨h1, by omega, by omega⟩, h3]
theorem join1 (x s : ByteArray) : (⟨(Lib.join ([x].map (·.data.toList)) s.data.toList).toArray⟩ : ByteArray) = x := by
  apply ByteArray.ext; simp [Lib.join, List.intercalate]
theorem join2 (x y s : ByteArray) : (⟨(Lib.join ([x, y].map (·.data.toList)) s.data.toList).toArray⟩ : ByteArray) = x ++ s ++ y := by
  apply ByteArray.ext; simp [Lib.join, List.intercalate, ByteArray.data_append]
theorem join3 (x y z s : ByteArray) : (⟨(Lib.join ([x, y, z].map (·.data.toList)) s.data.toList).toArray⟩ : ByteArray) = x ++ s ++ y ++ s ++ z := by
  apply ByteArray.ext; simp [Lib.join, List.intercalate, ByteArray.data_append]
theorem line_eq (m : ByteArray) (l : List ByteArray) (r : ByteArray) (hm : m.size ≤ 100) (hr : r.size ≤ 1000) (h : strings_Join.f l (⟨#[44, 32]⟩ : ByteArray) = some r) : isa_line.f m l = some (m ++ (⟨#[32]⟩ : ByteArray) ++ r) := by
  unfold isa_line.f
  have e : (⟨#[32]⟩ : ByteArray).size = 1 := rfl
  rw [if_pos (by omega), h, Option.bind_some, if_pos (by rw [ByteArray.size_append]; omega)]
set_option maxRecDepth 100000 in
theorem text_ev (o a b c n : Int) (o0 : 0 ≤ o) (o1 : o < 256) (a0 : 0 ≤ a) (a1 : a < 256) (b0 : 0 ≤ b) (b1 : b < 256) (c0 : 0 ≤ c) (c1 : c < 256) (n0 : -2147483648 ≤ n) (n1 : n ≤ 2147483647) :
    Ev (fun k => isa_Text.f k o a b c n) (txt o a b c n) := by
  have Sp : strings_Split.f (⟨#[97, 100, 100, 32, 115, 117, 98, 32, 109, 117, 108, 32, 100, 105, 118, 32, 114, 101, 109, 32, 97, 110, 100, 32, 111, 114, 32, 120, 111, 114, 32, 115, 104, 108, 32, 115, 104, 114, 32, 115, 97, 114, 32, 115, 108, 116, 32, 115, 108, 116, 117, 32, 97, 100, 100, 105, 32, 97, 110, 100, 105, 32, 111, 114, 105, 32, 120, 111, 114, 105, 32, 115, 108, 116, 105, 32, 108, 117, 105, 32, 108, 119, 32, 108, 98, 32, 108, 98, 117, 32, 115, 119, 32, 115, 98, 32, 98, 101, 113, 32, 98, 110, 101, 32, 98, 108, 116, 32, 98, 108, 116, 117, 32, 106, 97, 108, 32, 106, 97, 108, 114, 32, 115, 121, 115]⟩ : ByteArray) (⟨#[32]⟩ : ByteArray) = some nmL := split_eq
  unfold isa_Text.f txt
  rw [Sp]
  simp only [Option.bind_some]
  refine Ev.bind (enc_ev o a b c n o0 o1 a0 b0 c0) ?_
  by_cases h : (encOf o a b c n).2 = 0
  · simp only [if_pos h]
    have hw : encOf o a b c n = ((encOf o a b c n).1, 0) := by rw [← h]
    obtain ⟨hf, _, _, _⟩ := enc_ok hw
    obtain ⟨g0, g1⟩ := frm_ne hf
    have h5 := frm_lt hf
    have e1 : (o - 1) % 256 = o - 1 := by omega
    have e2 : ((nmL.length : Nat) : Int) = 31 := rfl
    have sn := nm_size o g0 g1
    have si := itb_size n (by omega) (by omega)
    have sa := rg_size a (by omega) (by omega)
    have sb := rg_size b (by omega) (by omega)
    have sc := rg_size c (by omega) (by omega)
    have z1 : (⟨#[44, 32]⟩ : ByteArray).size = 2 := rfl
    have z2 : (⟨#[40]⟩ : ByteArray).size = 1 := rfl
    have z3 : (⟨#[41]⟩ : ByteArray).size = 1 := rfl
    have en : rdOf ByteArray.empty nmL (o - 1) = nm o := rfl
    simp only [e1, e2, en]
    rw [if_pos (by omega), if_pos (by omega), wrap64_id (by omega) (by omega), itoa_eq n (by omega) (by omega), form_eq o o0 o1, reg_eq a a0 a1, reg_eq b b0 b1, reg_eq c c0 c1]
    simp only [Option.bind_some]
    by_cases f1 : frm o = 114
    · rw [if_pos f1, if_pos f1, line_eq (nm o) _ _ (by omega) ?_ (join_list _ _ _ (by simp) (by simp) (join3 _ _ _ _) ?_)]
      · simp only [Option.bind_some, app_assoc]; exact Ev.now _
      · simp only [ByteArray.size_append]; omega
      · simp only [ByteArray.size_append]; omega
    rw [if_neg f1, if_neg f1]
    by_cases f2 : frm o = 105
    · rw [if_pos f2, if_pos f2, line_eq (nm o) _ _ (by omega) ?_ (join_list _ _ _ (by simp) (by simp) (join3 _ _ _ _) ?_)]
      · simp only [Option.bind_some, app_assoc]; exact Ev.now _
      · simp only [ByteArray.size_append]; omega
      · simp only [ByteArray.size_append]; omega
    rw [if_neg f2, if_neg f2]
    by_cases f3 : frm o = 108
    · rw [if_pos f3, if_pos f3, line_eq (nm o) _ _ (by omega) ?_ (join_list _ _ _ (by simp) (by simp) (join2 _ _ _) ?_)]
      · simp only [Option.bind_some, app_assoc]; exact Ev.now _
      · simp only [ByteArray.size_append]; omega
      · simp only [ByteArray.size_append]; omega
    rw [if_neg f3, if_neg f3]
    by_cases f4 : frm o = 109
    · rw [if_pos f4, if_pos f4, if_pos (by omega), if_pos (by rw [ByteArray.size_append]; omega), if_pos (by simp only [ByteArray.size_append]; omega), line_eq (nm o) _ _ (by omega) ?_ (join_list _ _ _ (by simp) (by simp) (join2 _ _ _) ?_)]
      · simp only [Option.bind_some, app_assoc]; exact Ev.now _
      · simp only [ByteArray.size_append]; omega
      · simp only [ByteArray.size_append]; omega
    rw [if_neg f4, if_neg f4]
    rw [line_eq (nm o) _ _ (by omega) ?_ (join_list _ _ _ (by simp) (by simp) (join1 _ _) ?_)]
    · simp only [Option.bind_some, app_assoc]; exact Ev.now _
    · omega
    · omega
  · simp only [if_neg h]
    exact Ev.now _
end Go.Proofs.YthdfkbkenklcaaaDoor.Q
end
section
namespace Go.Proofs.YthdfkbkenklcaaaDoor.P
open Go.RowKit Go.Proofs.YthdfkbkenklcaaaDoorW.PrintWords Go.Proofs.YthdfkbkenklcaaaDoorW.PrintLast Go.Proofs.YthdfkbkenklcaaaDoorW.PrintMore
attribute [local go_sem] isSome_setCell_eq max2_int min2_int max_two min_two max_three min_three max_four min_four
set_option linter.unusedVariables false
set_option linter.unusedSimpArgs false
attribute [local go_sem high] eqA23
def hibernaclelaw10_IsaEnc.f (k : Nat) (a0_0 : Int) (a0_1 : Int) (a0_2 : Int) (a0_3 : Int) (a0_4 : Int) : Option (Bool) := (hibernaclelaw10_alive.f k).bind fun t199 => (if t199 = true then ((isa_Enc.f k a0_0 a0_1 a0_2 a0_3 a0_4).bind fun bt200 => ((hibernacleref10_Enc.f k a0_0 a0_1 a0_2 a0_3 a0_4).bind fun bt202 => (if bt200.1 = bt202.1 then (if bt200.2 = bt202.2 then ((isa_Dec.f k bt200.1).bind fun bt204 => (if bt200.2 = 0 then (if bt204.2.2.2.2.2 = true then (some (bt204.1 == a0_0 && (bt204.2.1 == a0_1 && (bt204.2.2.1 == a0_2 && (bt204.2.2.2.1 == a0_3 && (bt204.2.2.2.2.1 == a0_4)))))) else (some false)) else (some true))) else (some false)) else (some false)))) else (some false))
theorem hibernaclelaw10_IsaEnc.mono : ∀ a0 a1 a2 a3 a4 k, LeO (hibernaclelaw10_IsaEnc.f k a0 a1 a2 a3 a4) (hibernaclelaw10_IsaEnc.f (k + 1) a0 a1 a2 a3 a4) := by
  intro a0 a1 a2 a3 a4 k
  unfold hibernaclelaw10_IsaEnc.f
  repeat' first
      | (with_reducible exact hibernaclelaw10_alive.mono _)
      | (with_reducible exact hibernacleref10_Enc.mono _ _ _ _ _ _)
      | (with_reducible exact isa_Dec.mono _ _)
      | (with_reducible exact isa_Enc.mono _ _ _ _ _ _)
      | (with_reducible exact LeO.refl _)
      | (with_reducible exact LeO.none _)
      | (with_reducible refine LeO.ite ?_ ?_)
      | (with_reducible refine LeO.bind ?_ (fun _ => ?_))
      | exact hibernaclelaw10_alive.mono _
      | exact hibernacleref10_Enc.mono _ _ _ _ _ _
      | exact isa_Dec.mono _ _
      | exact isa_Enc.mono _ _ _ _ _ _
      | exact LeO.none _
      | refine LeO.ite ?_ ?_
      | refine LeO.bind ?_ (fun _ => ?_)
def hibernacleref10_Dec.j0 : Nat → Int → Bool → Int → Int → Int → Int → Int → Option (Int × Int × Int × Int × Int × Bool)
  | 0, _, _, _, _, _, _, _ => none
  | k + 1, x0, x40, x213000, x213001, x213002, x213003, x213004 => if x40 = true then ((hibernacleref10_Enc.f k x213000 x213001 x213002 x213003 (wrap32 (x213004 - 65536))).bind fun bt217 => (if bt217.2 = 0 then (if bt217.1 = x0 then (some (x213000, x213001, x213002, x213003, wrap32 (x213004 - 65536), true)) else (some (0, 0, 0, 0, 0, false))) else (some (0, 0, 0, 0, 0, false)))) else ((hibernacleref10_Enc.f k x213000 x213001 x213002 x213003 x213004).bind fun bt219 => (if bt219.2 = 0 then (if bt219.1 = x0 then (some (x213000, x213001, x213002, x213003, x213004, true)) else (some (0, 0, 0, 0, 0, false))) else (some (0, 0, 0, 0, 0, false))))
def hibernacleref10_Dec.f (k : Nat) (a0 : Int) : Option (Int × Int × Int × Int × Int × Bool) := (hibernacleref10_Form.f k ((Int.tdiv a0 67108864) % 256)).bind fun t213 => (if t213 = 1 then ((hibernacleref10_Enc.f k ((Int.tdiv a0 67108864) % 256) ((Int.tdiv a0 4194304) % 16) ((Int.tdiv a0 262144) % 16) ((Int.tdiv a0 16384) % 16) 0).bind fun bt214 => (if bt214.2 = 0 then (if bt214.1 = a0 then (some ((Int.tdiv a0 67108864) % 256, (Int.tdiv a0 4194304) % 16, (Int.tdiv a0 262144) % 16, (Int.tdiv a0 16384) % 16, 0, true)) else (some (0, 0, 0, 0, 0, false))) else (some (0, 0, 0, 0, 0, false)))) else (if (wrap32 (Int.tmod a0 65536)) > 32767 then ((hibernacleref10_plain.f ((Int.tdiv a0 67108864) % 256)).bind fun t216 => (hibernacleref10_Dec.j0 k a0 (!t216) ((Int.tdiv a0 67108864) % 256) ((Int.tdiv a0 4194304) % 16) ((Int.tdiv a0 262144) % 16) 0 (wrap32 (Int.tmod a0 65536)))) else (hibernacleref10_Dec.j0 k a0 false ((Int.tdiv a0 67108864) % 256) ((Int.tdiv a0 4194304) % 16) ((Int.tdiv a0 262144) % 16) 0 (wrap32 (Int.tmod a0 65536)))))
theorem hibernacleref10_Dec.mono_l : ∀ k, (∀ y0 y1 y2 y3 y4 y5 y6, LeO (hibernacleref10_Dec.j0 k y0 y1 y2 y3 y4 y5 y6) (hibernacleref10_Dec.j0 (k + 1) y0 y1 y2 y3 y4 y5 y6))
  | 0 => fun _ _ _ _ _ _ _ r h => by simp [hibernacleref10_Dec.j0] at h
  | k + 1 => by
    have ih0 := hibernacleref10_Dec.mono_l k
    · intro y0 y1 y2 y3 y4 y5 y6
      unfold hibernacleref10_Dec.j0
      repeat' first
      | (with_reducible exact ih0 _ _ _ _ _ _ _)
      | (with_reducible exact hibernacleref10_Enc.mono _ _ _ _ _ _)
      | (with_reducible exact hibernacleref10_Form.mono _ _)
      | (with_reducible exact LeO.refl _)
      | (with_reducible exact LeO.none _)
      | (with_reducible refine LeO.ite ?_ ?_)
      | (with_reducible refine LeO.bind ?_ (fun _ => ?_))
      | exact ih0 _ _ _ _ _ _ _
      | exact hibernacleref10_Enc.mono _ _ _ _ _ _
      | exact hibernacleref10_Form.mono _ _
      | exact LeO.none _
      | refine LeO.ite ?_ ?_
      | refine LeO.bind ?_ (fun _ => ?_)
theorem hibernacleref10_Dec.mono : ∀ a0 k, LeO (hibernacleref10_Dec.f k a0) (hibernacleref10_Dec.f (k + 1) a0) := by
  intro a0 k
  have ih0 := hibernacleref10_Dec.mono_l k
  unfold hibernacleref10_Dec.f
  repeat' first
      | (with_reducible exact ih0 _ _ _ _ _ _ _)
      | (with_reducible exact hibernacleref10_Enc.mono _ _ _ _ _ _)
      | (with_reducible exact hibernacleref10_Form.mono _ _)
      | (with_reducible exact LeO.refl _)
      | (with_reducible exact LeO.none _)
      | (with_reducible refine LeO.ite ?_ ?_)
      | (with_reducible refine LeO.bind ?_ (fun _ => ?_))
      | exact ih0 _ _ _ _ _ _ _
      | exact hibernacleref10_Enc.mono _ _ _ _ _ _
      | exact hibernacleref10_Form.mono _ _
      | exact LeO.none _
      | refine LeO.ite ?_ ?_
      | refine LeO.bind ?_ (fun _ => ?_)
def hibernaclelaw10_IsaDec.f (k : Nat) (a0 : Int) : Option (Bool) := (hibernaclelaw10_alive.f k).bind fun t221 => (if t221 = true then ((isa_Dec.f k a0).bind fun bt222 => ((hibernacleref10_Dec.f k a0).bind fun bt229 => (if (!(bt222.1 == bt229.1) || (!(bt222.2.1 == bt229.2.1) || (!(bt222.2.2.1 == bt229.2.2.1) || (!(bt222.2.2.2.1 == bt229.2.2.2.1) || (!(bt222.2.2.2.2.1 == bt229.2.2.2.2.1)))))) = true then (some false) else (if (bt222.2.2.2.2.2 != bt229.2.2.2.2.2) = true then (some false) else ((isa_Enc.f k bt222.1 bt222.2.1 bt222.2.2.1 bt222.2.2.2.1 bt222.2.2.2.2.1).bind fun bt236 => (if bt222.2.2.2.2.2 = true then (if bt236.2 = 0 then (some (bt236.1 == a0)) else (some false)) else (if (bt222.1 == 0 && (bt222.2.1 == 0 && (bt222.2.2.1 == 0 && (bt222.2.2.2.1 == 0 && (bt222.2.2.2.2.1 == 0))))) = true then (some true) else (some false)))))))) else (some false))
theorem hibernaclelaw10_IsaDec.mono : ∀ a0 k, LeO (hibernaclelaw10_IsaDec.f k a0) (hibernaclelaw10_IsaDec.f (k + 1) a0) := by
  intro a0 k
  unfold hibernaclelaw10_IsaDec.f
  repeat' first
      | (with_reducible exact hibernaclelaw10_alive.mono _)
      | (with_reducible exact hibernacleref10_Dec.mono _ _)
      | (with_reducible exact isa_Dec.mono _ _)
      | (with_reducible exact isa_Enc.mono _ _ _ _ _ _)
      | (with_reducible exact LeO.refl _)
      | (with_reducible exact LeO.none _)
      | (with_reducible refine LeO.ite ?_ ?_)
      | (with_reducible refine LeO.bind ?_ (fun _ => ?_))
      | exact hibernaclelaw10_alive.mono _
      | exact hibernacleref10_Dec.mono _ _
      | exact isa_Dec.mono _ _
      | exact isa_Enc.mono _ _ _ _ _ _
      | exact LeO.none _
      | refine LeO.ite ?_ ?_
      | refine LeO.bind ?_ (fun _ => ?_)
end Go.Proofs.YthdfkbkenklcaaaDoor.P
end
section
set_option linter.unusedSimpArgs false
set_option linter.unusedVariables false
namespace Go.Proofs.YthdfkbkenklcaaaDoor.Q
open Go.RowKit Go.Proofs.YthdfkbkenklcaaaDoor.P Go.Proofs.YthdfkbkenklcaaaDoorW.PrintWords Go.Proofs.YthdfkbkenklcaaaDoorW.PrintLast Go.Proofs.YthdfkbkenklcaaaDoorW.PrintMore
theorem al1 : encOf 1 1 2 3 0 = (71876608, 0) := by decide +kernel
theorem al2 : encOf 31 0 0 0 5 = (2080374789, 0) := by decide +kernel
theorem al3 : decOf 0 = (0, 0, 0, 0, 0, false) := by decide +kernel
theorem al4 : (txt 20 1 2 0 4).toList = ([108, 119, 32, 114, 49, 44, 32, 52, 40, 114, 50, 41] : List UInt8) := by decide +kernel
theorem alive_ev : Ev (fun k => hibernaclelaw10_alive.f k) true := by
  unfold hibernaclelaw10_alive.f
  have h1 := enc_ev 1 1 2 3 0 (by omega) (by omega) (by omega) (by omega) (by omega)
  have h2 := enc_ev 31 0 0 0 5 (by omega) (by omega) (by omega) (by omega) (by omega)
  have h3 := dec_all 0 (by omega) (by omega)
  have h4 := text_ev 20 1 2 0 4 (by omega) (by omega) (by omega) (by omega) (by omega) (by omega) (by omega) (by omega) (by omega) (by omega)
  rw [al1] at h1
  rw [al2] at h2
  rw [al3] at h3
  refine Ev.bind h1 (Ev.bind h2 (Ev.bind h3 ?_))
  simp only [if_pos, Bool.false_eq_true, if_false]
  refine Ev.bind h4 ?_
  rw [al4]
  exact Ev.now _
end Go.Proofs.YthdfkbkenklcaaaDoor.Q
end
