-- Printed for this claim and put together by wip/tools/prune.py.
import Derived.Test.YthdfkbkenklcaaaDoorCFi1
import Derived.Test.YthdfkbkenklcaaaDoorCFi2
import Derived.Test.YthdfkbkenklcaaaDoorCFi4
import Derived.Test.YthdfkbkenklcaaaDoorCFi6
import Derived.Test.YthdfkbkenklcaaaDoorCFi7
set_option linter.unusedVariables false
set_option linter.unusedSimpArgs false
section
namespace Go.Proofs.YthdfkbkenklcaaaDoor.P
open Go.RowKit Go.Proofs.YthdfkbkenklcaaaDoorW.PrintWords Go.Proofs.YthdfkbkenklcaaaDoorW.PrintLast Go.Proofs.YthdfkbkenklcaaaDoorW.PrintMore
attribute [local go_sem] isSome_setCell_eq max2_int min2_int max_two min_two max_three min_three max_four min_four
set_option linter.unusedVariables false
set_option linter.unusedSimpArgs false
attribute [local go_sem high] eqA23
set_option maxHeartbeats 80000000 in
set_option maxRecDepth 100000 in
theorem hibernaclelaw10_IsaFields.walk_no (k : Nat) (a0_0 a0_1 a0_2 a0_3 a0_4 a1 a2 a3 a4 : Int) (t197 t198 : Int) (w : World) (hL : Aside0 (Laid w)) (A6 : Aside0 (hibernaclelaw10_alive.f k = some true)) (A8 : Aside0 (isa_Enc.f k a0_0 a0_1 a0_2 a0_3 a0_4 = some (t197, t198))) (c9 : ¬ t198 = 0) :
    Calls Tryd.prog 7 #[.agg #[.int .u8 a0_0, .int .u8 a0_1, .int .u8 a0_2, .int .u8 a0_3, .int .i32 a0_4], .int .u8 a1, .int .u8 a2, .int .u8 a3, .int .i32 a4] w fun e w' => e = .returned (.bool true) ∧ Below w.heap.size w w' := by
  have hu23 := Tryd.underlying23
  have HB := Aside0.mk (Below.refl w.heap.size w)
  have c9b0 : (t198 == 0) = false := beq_eq_false_iff_ne.mpr c9
  have c9b1 : (t198 != 0) = true := bne_iff_ne.mpr c9
  go_enter Tryd.func7, Tryd.ntmps7
  go_wp2_with (first | ((with_reducible refine gate_dst (N := 5) rfl ?_); refine box_event ?hg (N := 5) ?hd (cs := #[.int .u8 a0_0, .int .u8 a0_1, .int .u8 a0_2, .int .u8 a0_3, .int .i32 a0_4]) (t := 23) ?hr ?_; (case hd => rfl); (case hg => rfl); (case hr => first | (go_simp; done) | (go_simp; rfl)); intro gb195 hg w1365 hbox hb; have n0_ := Aside0.mk (below_step (by repeat (first | (with_reducible first | exact HB.out | apply below_alloc | apply pw_below_drewN | apply below_drew1) | exact HB.out)) hb); have n1_ := Aside0.mk (hbox); have n2_ := Aside0.mk ((by rw [hg]; exact (below_size (by repeat (first | (with_reducible first | exact HB.out | apply below_alloc | apply pw_below_drewN | apply below_drew1) | exact HB.out))) : w.heap.size ≤ gb195)); have n3_ := Aside0.mk ((by rw [hg]; exact (below_size (by repeat (first | (with_reducible first | exact HB.out | apply below_alloc | apply pw_below_drewN | apply below_drew1) | exact HB.out))) : w.heap.size ≤ gb195)); clear HB; have HB := n0_; have BK195 := n1_; have GW195 := n2_; have GE195 := n3_; clear n0_ n1_ n2_ n3_; clear hb hbox hg) | ((with_reducible refine gate_callee (f := 10) rfl ?_); refine goesL_ (some 25) rfl rfl Tryd.func10 (by kernel_rfl) rfl #[] rfl (by (try simp only [List.map_toArray, List.map_cons, List.map_nil]); first | done | rfl | (simp only [List.length_drop, List.length_take]; rfl)) ?_; (with_reducible refine (hibernaclelaw10_alive.calls k  true _ (hL.laid (by repeat (first | (with_reducible first | exact HB.out | apply below_alloc | apply pw_below_drewN | apply below_drew1 | refine below_set ?_ GE195.out) | exact HB.out))) A6.out).mono ?_); rintro e w1366 ⟨rfl, hb⟩; refine ⟨_, rfl, ?_⟩; have n0_ := Aside0.mk (blk_below (g := gb195) (o := .cells #[.int .u8 a0_0, .int .u8 a0_1, .int .u8 a0_2, .int .u8 a0_3, .int .i32 a0_4] 23 (0, 0)) (by (with_reducible repeat (first | refine blk_drewN ?_ _ | refine blk_drew ?_ | refine blk_alloc ?_ _)); exact BK195.out) hb); have n1_ := Aside0.mk (below_step (by repeat (first | (with_reducible first | exact HB.out | apply below_alloc | apply pw_below_drewN | apply below_drew1 | refine below_set ?_ GE195.out) | exact HB.out)) hb); clear BK195; clear HB; have BK195 := n0_; have HB := n1_; clear n0_ n1_; (try clear hb); (try clear hb2); (try clear hk); (try clear hi); have hcz1367_0 : w1366.cell? ⟨gb195, 0, none⟩ = some (.int .u8 a0_0) := (blk_cell BK195.out 0).trans rfl; have hcz1367_1 : w1366.cell? ⟨gb195, 1, none⟩ = some (.int .u8 a0_1) := (blk_cell BK195.out 1).trans rfl; have hcz1367_2 : w1366.cell? ⟨gb195, 2, none⟩ = some (.int .u8 a0_2) := (blk_cell BK195.out 2).trans rfl; have hcz1367_3 : w1366.cell? ⟨gb195, 3, none⟩ = some (.int .u8 a0_3) := (blk_cell BK195.out 3).trans rfl; have hcz1367_4 : w1366.cell? ⟨gb195, 4, none⟩ = some (.int .i32 a0_4) := (blk_cell BK195.out 4).trans rfl; have hfz1367_0 := blk_frozen BK195.out 0; have hfz1367_1 := blk_frozen BK195.out 1; have hfz1367_2 := blk_frozen BK195.out 2; have hfz1367_3 := blk_frozen BK195.out 3; have hfz1367_4 := blk_frozen BK195.out 4) | ((with_reducible refine gate_callee (f := 11) rfl ?_); refine goesL_ (some 29) rfl rfl Tryd.func11 (by kernel_rfl) rfl #[.agg #[.int .u8 a0_0, .int .u8 a0_1, .int .u8 a0_2, .int .u8 a0_3, .int .i32 a0_4]] rfl (by (try simp only [List.map_toArray, List.map_cons, List.map_nil]); first | done | rfl | (simp only [List.length_drop, List.length_take]; rfl)) ?_; (with_reducible refine (isa_Enc.calls k a0_0 a0_1 a0_2 a0_3 a0_4 t197 t198 _ A8.out).mono ?_); rintro e w1368 ⟨rfl, hb⟩; refine ⟨_, rfl, ?_⟩; have n0_ := Aside0.mk (blk_below (g := gb195) (o := .cells #[.int .u8 a0_0, .int .u8 a0_1, .int .u8 a0_2, .int .u8 a0_3, .int .i32 a0_4] 23 (0, 0)) (by (with_reducible repeat (first | refine blk_drewN ?_ _ | refine blk_drew ?_ | refine blk_alloc ?_ _)); exact BK195.out) hb); have n1_ := Aside0.mk (below_step (by repeat (first | (with_reducible first | exact HB.out | apply below_alloc | apply pw_below_drewN | apply below_drew1 | refine below_set ?_ GE195.out) | exact HB.out)) hb); clear BK195; clear HB; have BK195 := n0_; have HB := n1_; clear n0_ n1_; (try clear hb); (try clear hb2); (try clear hk); (try clear hi)))
  go_ret
  exact ⟨by first | rfl | (simp [errW_none, errW_some] <;> rfl) | (simp [*, errW_none, errW_some] <;> rfl), by repeat (first | (with_reducible first | exact HB.out | apply below_alloc | apply pw_below_drewN | apply below_drew1 | refine below_set ?_ GE195.out) | exact HB.out)⟩
end Go.Proofs.YthdfkbkenklcaaaDoor.P
end
section
namespace Go.Proofs.YthdfkbkenklcaaaDoor.Q
open Go.RowKit Go.Proofs.YthdfkbkenklcaaaDoor.P Go.Proofs.YthdfkbkenklcaaaDoorW.PrintWords Go.Proofs.YthdfkbkenklcaaaDoorW.PrintLast Go.Proofs.YthdfkbkenklcaaaDoorW.PrintMore
theorem IsaFields_calls (o a b c n : Int) (h : Ix.Ok o a b c n) (a' : Int) (a0' : 0 ≤ a') (_a1' : a' < 256) (b' : Int) (b0' : 0 ≤ b') (_b1' : b' < 256) (c' : Int) (c0' : 0 ≤ c') (_c1' : c' < 256) (n' : Int) (_n0' : -2147483648 ≤ n') (_n1' : n' ≤ 2147483647)
    (w : World) (hL : Aside0 (Laid w)) :
    Calls Tryd.prog 7 #[.agg #[.int .u8 o, .int .u8 a, .int .u8 b, .int .u8 c, .int .i32 n], .int .u8 a', .int .u8 b', .int .u8 c', .int .i32 n'] w fun e w' => e = .returned (.bool true) ∧ Below w.heap.size w w' := by
  obtain ⟨K0, h0⟩ := alive_ev
  obtain ⟨K1, h1⟩ := enc_ev o a b c n h.o0 h.o1 h.a0 h.b0 h.c0
  obtain ⟨K2, h2⟩ := enc_ev o a' b c n h.o0 h.o1 a0' h.b0 h.c0
  obtain ⟨K3, h3⟩ := enc_ev o a b' c n h.o0 h.o1 h.a0 b0' h.c0
  obtain ⟨K4, h4⟩ := enc_ev o a b c' n h.o0 h.o1 h.a0 h.b0 c0'
  obtain ⟨K5, h5⟩ := enc_ev o a b c n' h.o0 h.o1 h.a0 h.b0 h.c0
  have e0 := h0 (K0 + K1 + K2 + K3 + K4 + K5) (by omega)
  have e1 := h1 (K0 + K1 + K2 + K3 + K4 + K5) (by omega)
  have e2 := h2 (K0 + K1 + K2 + K3 + K4 + K5) (by omega)
  have e3 := h3 (K0 + K1 + K2 + K3 + K4 + K5) (by omega)
  have e4 := h4 (K0 + K1 + K2 + K3 + K4 + K5) (by omega)
  have e5 := h5 (K0 + K1 + K2 + K3 + K4 + K5) (by omega)
  by_cases hz : (encOf o a b c n).2 = 0
  · have hw : encOf o a b c n = ((encOf o a b c n).1, 0) := by rw [← hz]
    refine hibernaclelaw10_IsaFields.walk_ok (K0 + K1 + K2 + K3 + K4 + K5) o a b c n a' b' c' n' (encOf o a b c n).1 (encOf o a' b c n).1 (encOf o a' b c n).2 (encOf o a b' c n).1 (encOf o a b' c n).2 (encOf o a b c' n).1 (encOf o a b c' n).2 (encOf o a b c n').1 (encOf o a b c n').2 w hL ⟨e0⟩ ⟨by rw [← hw]; exact e1⟩ ⟨e2⟩ ⟨e3⟩ ⟨e4⟩ ⟨e5⟩ ⟨fun z => ?_⟩ ⟨fun z => ?_⟩ ⟨fun z => ?_⟩ ⟨fun z => ?_⟩
    · exact fields_a h.o0 h.a0 h.b0 h.c0 a0' hw (by rw [← z])
    · exact fields_b h.o0 h.a0 h.b0 h.c0 b0' hw (by rw [← z])
    · exact fields_c h.o0 h.a0 h.b0 h.c0 c0' hw (by rw [← z])
    · exact fields_n h.o0 h.a0 h.b0 h.c0 hw (by rw [← z])
  · exact hibernaclelaw10_IsaFields.walk_no (K0 + K1 + K2 + K3 + K4 + K5) o a b c n a' b' c' n' (encOf o a b c n).1 (encOf o a b c n).2 w hL ⟨e0⟩ ⟨e1⟩ hz
end Go.Proofs.YthdfkbkenklcaaaDoor.Q
end
