-- Printed for this claim and put together by wip/tools/prune.py.
import Derived.Test.YthdfkbkenklcaaaDoorCTO1
import Derived.Test.YthdfkbkenklcaaaDoorCTO4
import Derived.Test.YthdfkbkenklcaaaDoorCTO6
set_option linter.unusedVariables false
set_option linter.unusedSimpArgs false
section
namespace Go.Proofs.YthdfkbkenklcaaaDoor.P
open Go.RowKit Go.Proofs.YthdfkbkenklcaaaDoorW.PrintWords Go.Proofs.YthdfkbkenklcaaaDoorW.PrintLast Go.Proofs.YthdfkbkenklcaaaDoorW.PrintMore
attribute [local go_sem] isSome_setCell_eq max2_int min2_int max_two min_two max_three min_three max_four min_four
set_option linter.unusedVariables false
set_option linter.unusedSimpArgs false
mutual
def hibernacleref10_Enc.j0 : Nat → Int → Bool → Int → Int → Int → Int → Int → Option (Int × Int)
  | 0, _, _, _, _, _, _, _ => none
  | k + 1, x4, x25, x196000, x196001, x196002, x196003, x196004 => if x25 = true then (some (0, 1)) else (if x4 = 5 then (if x196001 = 0 then (if x4 = 3 then (if x196002 = 0 then (if x4 = 1 then (hibernacleref10_Enc.j1 k x4 (x196004 != 0) x196000 x196001 x196002 x196003 x196004) else (if x196003 = 0 then (hibernacleref10_Enc.j1 k x4 false x196000 x196001 x196002 x196003 x196004) else (hibernacleref10_Enc.j1 k x4 true x196000 x196001 x196002 x196003 x196004))) else (hibernacleref10_Enc.j1 k x4 true x196000 x196001 x196002 x196003 x196004)) else (if x196002 = 0 then (if x4 = 1 then (hibernacleref10_Enc.j1 k x4 (x196004 != 0) x196000 x196001 x196002 x196003 x196004) else (if x196003 = 0 then (hibernacleref10_Enc.j1 k x4 false x196000 x196001 x196002 x196003 x196004) else (hibernacleref10_Enc.j1 k x4 true x196000 x196001 x196002 x196003 x196004))) else (hibernacleref10_Enc.j1 k x4 true x196000 x196001 x196002 x196003 x196004))) else (hibernacleref10_Enc.j1 k x4 true x196000 x196001 x196002 x196003 x196004)) else (if x4 = 3 then (if x196002 = 0 then (if x4 = 1 then (hibernacleref10_Enc.j1 k x4 (x196004 != 0) x196000 x196001 x196002 x196003 x196004) else (if x196003 = 0 then (hibernacleref10_Enc.j1 k x4 false x196000 x196001 x196002 x196003 x196004) else (hibernacleref10_Enc.j1 k x4 true x196000 x196001 x196002 x196003 x196004))) else (hibernacleref10_Enc.j1 k x4 true x196000 x196001 x196002 x196003 x196004)) else (if x4 = 1 then (hibernacleref10_Enc.j1 k x4 (x196004 != 0) x196000 x196001 x196002 x196003 x196004) else (if x196003 = 0 then (hibernacleref10_Enc.j1 k x4 false x196000 x196001 x196002 x196003 x196004) else (hibernacleref10_Enc.j1 k x4 true x196000 x196001 x196002 x196003 x196004)))))
def hibernacleref10_Enc.j1 : Nat → Int → Bool → Int → Int → Int → Int → Int → Option (Int × Int)
  | 0, _, _, _, _, _, _, _ => none
  | k + 1, x4, x63, x196000, x196001, x196002, x196003, x196004 => if x63 = true then (some (0, 1)) else (if x4 = 1 then (some (((((((((((((IntKind.u32.wrap (x196000)) * 16) % 4294967296) + (IntKind.u32.wrap (x196001))) % 4294967296) * 16) % 4294967296) + (IntKind.u32.wrap (x196002))) % 4294967296) * 262144) % 4294967296) + (((IntKind.u32.wrap (x196003)) * 16384) % 4294967296)) % 4294967296, 0)) else ((hibernacleref10_plain.f x196000).bind fun t197 => (if t197 = true then (hibernacleref10_Enc.j2 k 0 65535 x196000 x196001 x196002 x196003 x196004) else (hibernacleref10_Enc.j2 k (-32768) 32767 x196000 x196001 x196002 x196003 x196004))))
def hibernacleref10_Enc.j2 : Nat → Int → Int → Int → Int → Int → Int → Int → Option (Int × Int)
  | 0, _, _, _, _, _, _, _ => none
  | k + 1, x5, x6, x196000, x196001, x196002, x196003, x196004 => if x196004 < x5 then (hibernacleref10_Enc.j3 k true x196000 x196001 x196002 x196003 x196004) else (hibernacleref10_Enc.j3 k (decide (x196004 > x6)) x196000 x196001 x196002 x196003 x196004)
def hibernacleref10_Enc.j3 : Nat → Bool → Int → Int → Int → Int → Int → Option (Int × Int)
  | 0, _, _, _, _, _, _ => none
  | k + 1, x97, x196000, x196001, x196002, x196003, x196004 => if x97 = true then (some (0, 2)) else (if x196004 < 0 then (some (((((((((((((IntKind.u32.wrap (x196000)) * 16) % 4294967296) + (IntKind.u32.wrap (x196001))) % 4294967296) * 16) % 4294967296) + (IntKind.u32.wrap (x196002))) % 4294967296) * 262144) % 4294967296) + (IntKind.u32.wrap (wrap32 (x196004 + 65536)))) % 4294967296, 0)) else (some (((((((((((((IntKind.u32.wrap (x196000)) * 16) % 4294967296) + (IntKind.u32.wrap (x196001))) % 4294967296) * 16) % 4294967296) + (IntKind.u32.wrap (x196002))) % 4294967296) * 262144) % 4294967296) + (IntKind.u32.wrap (x196004))) % 4294967296, 0)))
end
def hibernacleref10_Enc.f (k : Nat) (a0_0 : Int) (a0_1 : Int) (a0_2 : Int) (a0_3 : Int) (a0_4 : Int) : Option (Int × Int) := (hibernacleref10_Form.f k a0_0).bind fun t196 => (if t196 = 0 then (some (0, 16)) else (if a0_1 > 15 then (hibernacleref10_Enc.j0 k t196 true a0_0 a0_1 a0_2 a0_3 a0_4) else (if a0_2 > 15 then (hibernacleref10_Enc.j0 k t196 true a0_0 a0_1 a0_2 a0_3 a0_4) else (hibernacleref10_Enc.j0 k t196 (decide (a0_3 > 15)) a0_0 a0_1 a0_2 a0_3 a0_4))))
theorem hibernacleref10_Enc.mono_l : ∀ k, (∀ y0 y1 y2 y3 y4 y5 y6, LeO (hibernacleref10_Enc.j0 k y0 y1 y2 y3 y4 y5 y6) (hibernacleref10_Enc.j0 (k + 1) y0 y1 y2 y3 y4 y5 y6)) ∧ (∀ y0 y1 y2 y3 y4 y5 y6, LeO (hibernacleref10_Enc.j1 k y0 y1 y2 y3 y4 y5 y6) (hibernacleref10_Enc.j1 (k + 1) y0 y1 y2 y3 y4 y5 y6)) ∧ (∀ y0 y1 y2 y3 y4 y5 y6, LeO (hibernacleref10_Enc.j2 k y0 y1 y2 y3 y4 y5 y6) (hibernacleref10_Enc.j2 (k + 1) y0 y1 y2 y3 y4 y5 y6)) ∧ (∀ y0 y1 y2 y3 y4 y5, LeO (hibernacleref10_Enc.j3 k y0 y1 y2 y3 y4 y5) (hibernacleref10_Enc.j3 (k + 1) y0 y1 y2 y3 y4 y5))
  | 0 => ⟨fun _ _ _ _ _ _ _ r h => by simp [hibernacleref10_Enc.j0] at h, fun _ _ _ _ _ _ _ r h => by simp [hibernacleref10_Enc.j1] at h, fun _ _ _ _ _ _ _ r h => by simp [hibernacleref10_Enc.j2] at h, fun _ _ _ _ _ _ r h => by simp [hibernacleref10_Enc.j3] at h⟩
  | k + 1 => by
    obtain ⟨ih0, ih1, ih2, ih3⟩ := hibernacleref10_Enc.mono_l k
    refine ⟨?_, ?_, ?_, ?_⟩
    · intro y0 y1 y2 y3 y4 y5 y6
      unfold hibernacleref10_Enc.j0
      repeat' first
      | (with_reducible exact ih0 _ _ _ _ _ _ _)
      | (with_reducible exact ih1 _ _ _ _ _ _ _)
      | (with_reducible exact ih2 _ _ _ _ _ _ _)
      | (with_reducible exact ih3 _ _ _ _ _ _)
      | (with_reducible exact hibernacleref10_Form.mono _ _)
      | (with_reducible exact LeO.refl _)
      | (with_reducible exact LeO.none _)
      | (with_reducible refine LeO.ite ?_ ?_)
      | (with_reducible refine LeO.bind ?_ (fun _ => ?_))
      | exact ih0 _ _ _ _ _ _ _
      | exact ih1 _ _ _ _ _ _ _
      | exact ih2 _ _ _ _ _ _ _
      | exact ih3 _ _ _ _ _ _
      | exact hibernacleref10_Form.mono _ _
      | exact LeO.none _
      | refine LeO.ite ?_ ?_
      | refine LeO.bind ?_ (fun _ => ?_)
    · intro y0 y1 y2 y3 y4 y5 y6
      unfold hibernacleref10_Enc.j1
      repeat' first
      | (with_reducible exact ih0 _ _ _ _ _ _ _)
      | (with_reducible exact ih1 _ _ _ _ _ _ _)
      | (with_reducible exact ih2 _ _ _ _ _ _ _)
      | (with_reducible exact ih3 _ _ _ _ _ _)
      | (with_reducible exact hibernacleref10_Form.mono _ _)
      | (with_reducible exact LeO.refl _)
      | (with_reducible exact LeO.none _)
      | (with_reducible refine LeO.ite ?_ ?_)
      | (with_reducible refine LeO.bind ?_ (fun _ => ?_))
      | exact ih0 _ _ _ _ _ _ _
      | exact ih1 _ _ _ _ _ _ _
      | exact ih2 _ _ _ _ _ _ _
      | exact ih3 _ _ _ _ _ _
      | exact hibernacleref10_Form.mono _ _
      | exact LeO.none _
      | refine LeO.ite ?_ ?_
      | refine LeO.bind ?_ (fun _ => ?_)
    · intro y0 y1 y2 y3 y4 y5 y6
      unfold hibernacleref10_Enc.j2
      repeat' first
      | (with_reducible exact ih0 _ _ _ _ _ _ _)
      | (with_reducible exact ih1 _ _ _ _ _ _ _)
      | (with_reducible exact ih2 _ _ _ _ _ _ _)
      | (with_reducible exact ih3 _ _ _ _ _ _)
      | (with_reducible exact hibernacleref10_Form.mono _ _)
      | (with_reducible exact LeO.refl _)
      | (with_reducible exact LeO.none _)
      | (with_reducible refine LeO.ite ?_ ?_)
      | (with_reducible refine LeO.bind ?_ (fun _ => ?_))
      | exact ih0 _ _ _ _ _ _ _
      | exact ih1 _ _ _ _ _ _ _
      | exact ih2 _ _ _ _ _ _ _
      | exact ih3 _ _ _ _ _ _
      | exact hibernacleref10_Form.mono _ _
      | exact LeO.none _
      | refine LeO.ite ?_ ?_
      | refine LeO.bind ?_ (fun _ => ?_)
    · intro y0 y1 y2 y3 y4 y5
      unfold hibernacleref10_Enc.j3
      repeat' first
      | (with_reducible exact ih0 _ _ _ _ _ _ _)
      | (with_reducible exact ih1 _ _ _ _ _ _ _)
      | (with_reducible exact ih2 _ _ _ _ _ _ _)
      | (with_reducible exact ih3 _ _ _ _ _ _)
      | (with_reducible exact hibernacleref10_Form.mono _ _)
      | (with_reducible exact LeO.refl _)
      | (with_reducible exact LeO.none _)
      | (with_reducible refine LeO.ite ?_ ?_)
      | (with_reducible refine LeO.bind ?_ (fun _ => ?_))
      | exact ih0 _ _ _ _ _ _ _
      | exact ih1 _ _ _ _ _ _ _
      | exact ih2 _ _ _ _ _ _ _
      | exact ih3 _ _ _ _ _ _
      | exact hibernacleref10_Form.mono _ _
      | exact LeO.none _
      | refine LeO.ite ?_ ?_
      | refine LeO.bind ?_ (fun _ => ?_)
theorem hibernacleref10_Enc.mono : ∀ a0 a1 a2 a3 a4 k, LeO (hibernacleref10_Enc.f k a0 a1 a2 a3 a4) (hibernacleref10_Enc.f (k + 1) a0 a1 a2 a3 a4) := by
  intro a0 a1 a2 a3 a4 k
  obtain ⟨ih0, ih1, ih2, ih3⟩ := hibernacleref10_Enc.mono_l k
  unfold hibernacleref10_Enc.f
  repeat' first
      | (with_reducible exact ih0 _ _ _ _ _ _ _)
      | (with_reducible exact ih1 _ _ _ _ _ _ _)
      | (with_reducible exact ih2 _ _ _ _ _ _ _)
      | (with_reducible exact ih3 _ _ _ _ _ _)
      | (with_reducible exact hibernacleref10_Form.mono _ _)
      | (with_reducible exact LeO.refl _)
      | (with_reducible exact LeO.none _)
      | (with_reducible refine LeO.ite ?_ ?_)
      | (with_reducible refine LeO.bind ?_ (fun _ => ?_))
      | exact ih0 _ _ _ _ _ _ _
      | exact ih1 _ _ _ _ _ _ _
      | exact ih2 _ _ _ _ _ _ _
      | exact ih3 _ _ _ _ _ _
      | exact hibernacleref10_Form.mono _ _
      | exact LeO.none _
      | refine LeO.ite ?_ ?_
      | refine LeO.bind ?_ (fun _ => ?_)
set_option maxHeartbeats 8000000 in
set_option maxRecDepth 100000 in
theorem hibernacleref10_Enc.calls (k : Nat) (a0_0 : Int) (a0_1 : Int) (a0_2 : Int) (a0_3 : Int) (a0_4 : Int) (r1 : Int) (r2 : Int) (w : World) (h : hibernacleref10_Enc.f k a0_0 a0_1 a0_2 a0_3 a0_4 = some (r1, r2)) :
    Calls Tryd.prog 12 #[.agg #[.int .u8 a0_0, .int .u8 a0_1, .int .u8 a0_2, .int .u8 a0_3, .int .i32 a0_4]] w fun e w' => e = .returned (.tuple #[.int .u32 r1, .int .i64 r2]) ∧ Below w.heap.size w w' := by
  have hu23 := Tryd.underlying23
  have HB := Aside0.mk (Below.refl w.heap.size w)
  have H : ((hibernacleref10_Form.f k a0_0).bind fun t196 => (if t196 = 0 then (some (0, 16)) else (if a0_1 > 15 then (hibernacleref10_Enc.j0 k t196 true a0_0 a0_1 a0_2 a0_3 a0_4) else (if a0_2 > 15 then (hibernacleref10_Enc.j0 k t196 true a0_0 a0_1 a0_2 a0_3 a0_4) else (hibernacleref10_Enc.j0 k t196 (decide (a0_3 > 15)) a0_0 a0_1 a0_2 a0_3 a0_4))))) = some (r1, r2) := h
  clear h
  replace H := Option.bind_eq_some_iff.mp H
  obtain ⟨t196, A20, H⟩ := H
  replace H : (if t196 = 0 then (some (0, 16)) else (if a0_1 > 15 then (hibernacleref10_Enc.j0 k t196 true a0_0 a0_1 a0_2 a0_3 a0_4) else (if a0_2 > 15 then (hibernacleref10_Enc.j0 k t196 true a0_0 a0_1 a0_2 a0_3 a0_4) else (hibernacleref10_Enc.j0 k t196 (decide (a0_3 > 15)) a0_0 a0_1 a0_2 a0_3 a0_4)))) = some (r1, r2) := H
  have A2 := Aside0.mk A20
  clear A20
  by_cases c3 : t196 = 0
  · rw [if_pos c3] at H
    have c3b0 : (t196 == 0) = true := beq_iff_eq.mpr c3
    have c3b1 : (t196 != 0) = false := bne_eq_false_iff_eq.mpr c3
    clear c3
    simp only [Option.some.injEq, Prod.mk.injEq] at H
    obtain ⟨rfl, rfl⟩ := H
    go_enter Tryd.func12, Tryd.ntmps12
    go_wp2_with (first | ((with_reducible refine gate_dst (N := 1) rfl ?_); refine box_event ?hg (N := 1) ?hd (cs := #[.int .u8 a0_0, .int .u8 a0_1, .int .u8 a0_2, .int .u8 a0_3, .int .i32 a0_4]) (t := 23) ?hr ?_; (case hd => rfl); (case hg => rfl); (case hr => first | (go_simp; done) | (go_simp; rfl)); intro gb195 hg w4 hbox hb; have n0_ := Aside0.mk (below_step (by repeat (first | (with_reducible first | exact HB.out | apply below_alloc | apply pw_below_drewN | apply below_drew1) | exact HB.out)) hb); have n1_ := Aside0.mk (hbox); have n2_ := Aside0.mk ((by rw [hg]; exact (below_size (by repeat (first | (with_reducible first | exact HB.out | apply below_alloc | apply pw_below_drewN | apply below_drew1) | exact HB.out))) : w.heap.size ≤ gb195)); have n3_ := Aside0.mk ((by rw [hg]; exact (below_size (by repeat (first | (with_reducible first | exact HB.out | apply below_alloc | apply pw_below_drewN | apply below_drew1) | exact HB.out))) : w.heap.size ≤ gb195)); clear HB; have HB := n0_; have BK195 := n1_; have GW195 := n2_; have GE195 := n3_; clear n0_ n1_ n2_ n3_; clear hb hbox hg; have hcz5_0 : w4.cell? ⟨gb195, 0, none⟩ = some (.int .u8 a0_0) := (blk_cell BK195.out 0).trans rfl; have hcz5_1 : w4.cell? ⟨gb195, 1, none⟩ = some (.int .u8 a0_1) := (blk_cell BK195.out 1).trans rfl; have hcz5_2 : w4.cell? ⟨gb195, 2, none⟩ = some (.int .u8 a0_2) := (blk_cell BK195.out 2).trans rfl; have hcz5_3 : w4.cell? ⟨gb195, 3, none⟩ = some (.int .u8 a0_3) := (blk_cell BK195.out 3).trans rfl; have hcz5_4 : w4.cell? ⟨gb195, 4, none⟩ = some (.int .i32 a0_4) := (blk_cell BK195.out 4).trans rfl; have hfz5_0 := blk_frozen BK195.out 0; have hfz5_1 := blk_frozen BK195.out 1; have hfz5_2 := blk_frozen BK195.out 2; have hfz5_3 := blk_frozen BK195.out 3; have hfz5_4 := blk_frozen BK195.out 4) | ((with_reducible refine gate_callee (f := 22) rfl ?_); refine goesL_ (some 10) rfl rfl Tryd.func22 (by kernel_rfl) rfl #[.int .u8 a0_0] rfl (by (try simp only [List.map_toArray, List.map_cons, List.map_nil]); first | done | rfl | (simp only [List.length_drop, List.length_take]; rfl)) ?_; (with_reducible refine (hibernacleref10_Form.calls k a0_0 t196 _ A2.out).mono ?_); rintro e w' ⟨rfl, ⟨nd, rfl⟩⟩; refine ⟨_, rfl, ?_⟩))
    go_ret2
    exact ⟨by first | rfl | (simp [errW_none, errW_some] <;> rfl) | (simp [errW_none, errW_some, IntKind.wrap_u32] <;> omega) | (simp [*, errW_none, errW_some] <;> rfl), by repeat (first | (with_reducible first | exact HB.out | apply below_alloc | apply pw_below_drewN | apply below_drew1 | refine below_set ?_ GE195.out) | exact HB.out)⟩
  · rw [if_neg c3] at H
    have c3b0 : (t196 == 0) = false := beq_eq_false_iff_ne.mpr c3
    have c3b1 : (t196 != 0) = true := bne_iff_ne.mpr c3
    have HC6 := Aside0.mk H
    clear H
    go_enter Tryd.func12, Tryd.ntmps12
    go_upto_region 4 with (first | ((with_reducible refine gate_dst (N := 1) rfl ?_); refine box_event ?hg (N := 1) ?hd (cs := #[.int .u8 a0_0, .int .u8 a0_1, .int .u8 a0_2, .int .u8 a0_3, .int .i32 a0_4]) (t := 23) ?hr ?_; (case hd => rfl); (case hg => rfl); (case hr => first | (go_simp; done) | (go_simp; rfl)); intro gb195 hg w7 hbox hb; have n0_ := Aside0.mk (below_step (by repeat (first | (with_reducible first | exact HB.out | apply below_alloc | apply pw_below_drewN | apply below_drew1) | exact HB.out)) hb); have n1_ := Aside0.mk (hbox); have n2_ := Aside0.mk ((by rw [hg]; exact (below_size (by repeat (first | (with_reducible first | exact HB.out | apply below_alloc | apply pw_below_drewN | apply below_drew1) | exact HB.out))) : w.heap.size ≤ gb195)); have n3_ := Aside0.mk ((by rw [hg]; exact (below_size (by repeat (first | (with_reducible first | exact HB.out | apply below_alloc | apply pw_below_drewN | apply below_drew1) | exact HB.out))) : w.heap.size ≤ gb195)); clear HB; have HB := n0_; have BK195 := n1_; have GW195 := n2_; have GE195 := n3_; clear n0_ n1_ n2_ n3_; clear hb hbox hg; have hcz8_0 : w7.cell? ⟨gb195, 0, none⟩ = some (.int .u8 a0_0) := (blk_cell BK195.out 0).trans rfl; have hcz8_1 : w7.cell? ⟨gb195, 1, none⟩ = some (.int .u8 a0_1) := (blk_cell BK195.out 1).trans rfl; have hcz8_2 : w7.cell? ⟨gb195, 2, none⟩ = some (.int .u8 a0_2) := (blk_cell BK195.out 2).trans rfl; have hcz8_3 : w7.cell? ⟨gb195, 3, none⟩ = some (.int .u8 a0_3) := (blk_cell BK195.out 3).trans rfl; have hcz8_4 : w7.cell? ⟨gb195, 4, none⟩ = some (.int .i32 a0_4) := (blk_cell BK195.out 4).trans rfl; have hfz8_0 := blk_frozen BK195.out 0; have hfz8_1 := blk_frozen BK195.out 1; have hfz8_2 := blk_frozen BK195.out 2; have hfz8_3 := blk_frozen BK195.out 3; have hfz8_4 := blk_frozen BK195.out 4) | ((with_reducible refine gate_callee (f := 22) rfl ?_); refine goesL_ (some 10) rfl rfl Tryd.func22 (by kernel_rfl) rfl #[.int .u8 a0_0] rfl (by (try simp only [List.map_toArray, List.map_cons, List.map_nil]); first | done | rfl | (simp only [List.length_drop, List.length_take]; rfl)) ?_; (with_reducible refine (hibernacleref10_Form.calls k a0_0 t196 _ A2.out).mono ?_); rintro e w' ⟨rfl, ⟨nd, rfl⟩⟩; refine ⟨_, rfl, ?_⟩))
    (try simp only [Act.put, List.setIfInBounds_toArray, List.set_cons_zero, List.set_cons_succ])
    go_cut [25] (fun v25 wc => ∃ (kq : Nat) (x25_5 : Bool), v25 = .bool x25_5 ∧ Aside0 (hibernacleref10_Enc.j0 kq t196 x25_5 a0_0 a0_1 a0_2 a0_3 a0_4 = some (r1, r2)) ∧ Aside0 (kq ≤ k) ∧ Aside0 (wc.heap[gb195]? = some (.cells #[.int .u8 a0_0, .int .u8 a0_1, .int .u8 a0_2, .int .u8 a0_3, .int .i32 a0_4] 23 (0, 0))) ∧ Aside0 (Below w.heap.size w wc))
    case first =>
      have H := HC6.out
      clear HC6
      by_cases c9 : a0_1 > 15
      · rw [if_pos c9] at H
        have c9b0 : decide (15 < a0_1) = true := decide_eq_true c9
        clear c9
        (first | rw [c9b0] | (simp only [i64_w, i32_w]; rw [c9b0]) | skip)
        have H' := Aside0.mk H
        clear H
        have hcz10_0 : w7.cell? ⟨gb195, 0, none⟩ = some (.int .u8 a0_0) := (blk_cell BK195.out 0).trans rfl
        have hcz10_1 : w7.cell? ⟨gb195, 1, none⟩ = some (.int .u8 a0_1) := (blk_cell BK195.out 1).trans rfl
        have hcz10_2 : w7.cell? ⟨gb195, 2, none⟩ = some (.int .u8 a0_2) := (blk_cell BK195.out 2).trans rfl
        have hcz10_3 : w7.cell? ⟨gb195, 3, none⟩ = some (.int .u8 a0_3) := (blk_cell BK195.out 3).trans rfl
        have hcz10_4 : w7.cell? ⟨gb195, 4, none⟩ = some (.int .i32 a0_4) := (blk_cell BK195.out 4).trans rfl
        have hfz10_0 := blk_frozen BK195.out 0
        have hfz10_1 := blk_frozen BK195.out 1
        have hfz10_2 := blk_frozen BK195.out 2
        have hfz10_3 := blk_frozen BK195.out 3
        have hfz10_4 := blk_frozen BK195.out 4
        go_wp2
        go_meet
        case rel => exact ⟨_, (true), (by first | rfl | (simp; done) | (simp [*]; done)), H', ⟨by first | omega | exact Nat.le_refl _⟩, ⟨by (with_reducible repeat (first | refine blk_drewN ?_ _ | refine blk_drew ?_ | refine blk_alloc ?_ _)); exact BK195.out⟩, ⟨by repeat (first | (with_reducible first | exact HB.out | apply below_alloc | apply pw_below_drewN | apply below_drew1 | refine below_set ?_ GE195.out) | exact HB.out)⟩⟩
      · rw [if_neg c9] at H
        have c9b0 : decide (15 < a0_1) = false := decide_eq_false c9
        clear c9
        (first | rw [c9b0] | (simp only [i64_w, i32_w]; rw [c9b0]) | skip)
        by_cases c11 : a0_2 > 15
        · rw [if_pos c11] at H
          have c11b0 : decide (15 < a0_2) = true := decide_eq_true c11
          clear c11
          have H' := Aside0.mk H
          clear H
          have hcz12_0 : w7.cell? ⟨gb195, 0, none⟩ = some (.int .u8 a0_0) := (blk_cell BK195.out 0).trans rfl
          have hcz12_1 : w7.cell? ⟨gb195, 1, none⟩ = some (.int .u8 a0_1) := (blk_cell BK195.out 1).trans rfl
          have hcz12_2 : w7.cell? ⟨gb195, 2, none⟩ = some (.int .u8 a0_2) := (blk_cell BK195.out 2).trans rfl
          have hcz12_3 : w7.cell? ⟨gb195, 3, none⟩ = some (.int .u8 a0_3) := (blk_cell BK195.out 3).trans rfl
          have hcz12_4 : w7.cell? ⟨gb195, 4, none⟩ = some (.int .i32 a0_4) := (blk_cell BK195.out 4).trans rfl
          have hfz12_0 := blk_frozen BK195.out 0
          have hfz12_1 := blk_frozen BK195.out 1
          have hfz12_2 := blk_frozen BK195.out 2
          have hfz12_3 := blk_frozen BK195.out 3
          have hfz12_4 := blk_frozen BK195.out 4
          go_wp2
          go_meet
          case rel => exact ⟨_, (true), (by first | rfl | (simp; done) | (simp [*]; done)), H', ⟨by first | omega | exact Nat.le_refl _⟩, ⟨by (with_reducible repeat (first | refine blk_drewN ?_ _ | refine blk_drew ?_ | refine blk_alloc ?_ _)); exact BK195.out⟩, ⟨by repeat (first | (with_reducible first | exact HB.out | apply below_alloc | apply pw_below_drewN | apply below_drew1 | refine below_set ?_ GE195.out) | exact HB.out)⟩⟩
        · rw [if_neg c11] at H
          have c11b0 : decide (15 < a0_2) = false := decide_eq_false c11
          clear c11
          have H' := Aside0.mk H
          clear H
          have hcz13_0 : w7.cell? ⟨gb195, 0, none⟩ = some (.int .u8 a0_0) := (blk_cell BK195.out 0).trans rfl
          have hcz13_1 : w7.cell? ⟨gb195, 1, none⟩ = some (.int .u8 a0_1) := (blk_cell BK195.out 1).trans rfl
          have hcz13_2 : w7.cell? ⟨gb195, 2, none⟩ = some (.int .u8 a0_2) := (blk_cell BK195.out 2).trans rfl
          have hcz13_3 : w7.cell? ⟨gb195, 3, none⟩ = some (.int .u8 a0_3) := (blk_cell BK195.out 3).trans rfl
          have hcz13_4 : w7.cell? ⟨gb195, 4, none⟩ = some (.int .i32 a0_4) := (blk_cell BK195.out 4).trans rfl
          have hfz13_0 := blk_frozen BK195.out 0
          have hfz13_1 := blk_frozen BK195.out 1
          have hfz13_2 := blk_frozen BK195.out 2
          have hfz13_3 := blk_frozen BK195.out 3
          have hfz13_4 := blk_frozen BK195.out 4
          go_wp2
          go_meet
          case rel => exact ⟨_, (decide (a0_3 > 15)), (by first | rfl | (simp; done) | (simp [*]; done)), H', ⟨by first | omega | exact Nat.le_refl _⟩, ⟨by (with_reducible repeat (first | refine blk_drewN ?_ _ | refine blk_drew ?_ | refine blk_alloc ?_ _)); exact BK195.out⟩, ⟨by repeat (first | (with_reducible first | exact HB.out | apply below_alloc | apply pw_below_drewN | apply below_drew1 | refine below_set ?_ GE195.out) | exact HB.out)⟩⟩
    case rest =>
      clear HC6
      try clear c1
      try clear c2
      try clear p2
      try clear c3
      try clear c3b0
      try clear c3b1
      try clear c9
      try clear c9b0
      try clear c11
      try clear c11b0
      try clear c12
      try clear hcz10_0
      try clear hcz10_1
      try clear hcz10_2
      try clear hcz10_3
      try clear hcz10_4
      try clear hcz12_0
      try clear hcz12_1
      try clear hcz12_2
      try clear hcz12_3
      try clear hcz12_4
      try clear hcz13_0
      try clear hcz13_1
      try clear hcz13_2
      try clear hcz13_3
      try clear hcz13_4
      try clear hcz5_0
      try clear hcz5_1
      try clear hcz5_2
      try clear hcz5_3
      try clear hcz5_4
      try clear hcz8_0
      try clear hcz8_1
      try clear hcz8_2
      try clear hcz8_3
      try clear hcz8_4
      try clear hfz10_0
      try clear hfz10_1
      try clear hfz10_2
      try clear hfz10_3
      try clear hfz10_4
      try clear hfz12_0
      try clear hfz12_1
      try clear hfz12_2
      try clear hfz12_3
      try clear hfz12_4
      try clear hfz13_0
      try clear hfz13_1
      try clear hfz13_2
      try clear hfz13_3
      try clear hfz13_4
      try clear hfz5_0
      try clear hfz5_1
      try clear hfz5_2
      try clear hfz5_3
      try clear hfz5_4
      try clear hfz8_0
      try clear hfz8_1
      try clear hfz8_2
      try clear hfz8_3
      try clear hfz8_4
      obtain ⟨kq, x25_5, rfl, HA, HJ5, BK195, HB⟩ := hcut
      cases kq with
      | zero => exact absurd HA.out (by simp [hibernacleref10_Enc.j0])
      | succ kj5 =>
        have H := HA.out
        clear HA
        simp only [hibernacleref10_Enc.j0] at H
        by_cases c14 : x25_5 = true
        · subst c14
          have H1 : (some (0, 1)) = some (r1, r2) := by rw [if_pos rfl] at H; exact H
          clear H
          have H := H1
          clear H1
          simp only [Option.some.injEq, Prod.mk.injEq] at H
          obtain ⟨rfl, rfl⟩ := H
          go_wp2
          go_ret2
          exact ⟨by first | rfl | (simp [errW_none, errW_some] <;> rfl) | (simp [errW_none, errW_some, IntKind.wrap_u32] <;> omega) | (simp [*, errW_none, errW_some] <;> rfl), by repeat (first | (with_reducible first | exact HB.out | apply below_alloc | apply pw_below_drewN | apply below_drew1 | refine below_set ?_ GE195.out) | exact HB.out)⟩
        · replace c14 := Bool.eq_false_iff.mpr c14
          subst c14
          have H1 : (if t196 = 5 then (if a0_1 = 0 then (if t196 = 3 then (if a0_2 = 0 then (if t196 = 1 then (hibernacleref10_Enc.j1 kj5 t196 (a0_4 != 0) a0_0 a0_1 a0_2 a0_3 a0_4) else (if a0_3 = 0 then (hibernacleref10_Enc.j1 kj5 t196 false a0_0 a0_1 a0_2 a0_3 a0_4) else (hibernacleref10_Enc.j1 kj5 t196 true a0_0 a0_1 a0_2 a0_3 a0_4))) else (hibernacleref10_Enc.j1 kj5 t196 true a0_0 a0_1 a0_2 a0_3 a0_4)) else (if a0_2 = 0 then (if t196 = 1 then (hibernacleref10_Enc.j1 kj5 t196 (a0_4 != 0) a0_0 a0_1 a0_2 a0_3 a0_4) else (if a0_3 = 0 then (hibernacleref10_Enc.j1 kj5 t196 false a0_0 a0_1 a0_2 a0_3 a0_4) else (hibernacleref10_Enc.j1 kj5 t196 true a0_0 a0_1 a0_2 a0_3 a0_4))) else (hibernacleref10_Enc.j1 kj5 t196 true a0_0 a0_1 a0_2 a0_3 a0_4))) else (hibernacleref10_Enc.j1 kj5 t196 true a0_0 a0_1 a0_2 a0_3 a0_4)) else (if t196 = 3 then (if a0_2 = 0 then (if t196 = 1 then (hibernacleref10_Enc.j1 kj5 t196 (a0_4 != 0) a0_0 a0_1 a0_2 a0_3 a0_4) else (if a0_3 = 0 then (hibernacleref10_Enc.j1 kj5 t196 false a0_0 a0_1 a0_2 a0_3 a0_4) else (hibernacleref10_Enc.j1 kj5 t196 true a0_0 a0_1 a0_2 a0_3 a0_4))) else (hibernacleref10_Enc.j1 kj5 t196 true a0_0 a0_1 a0_2 a0_3 a0_4)) else (if t196 = 1 then (hibernacleref10_Enc.j1 kj5 t196 (a0_4 != 0) a0_0 a0_1 a0_2 a0_3 a0_4) else (if a0_3 = 0 then (hibernacleref10_Enc.j1 kj5 t196 false a0_0 a0_1 a0_2 a0_3 a0_4) else (hibernacleref10_Enc.j1 kj5 t196 true a0_0 a0_1 a0_2 a0_3 a0_4))))) = some (r1, r2) := by rw [if_neg (show ¬ (false = true) by decide)] at H; exact H
          clear H
          have H := H1
          clear H1
          have HC15 := Aside0.mk H
          clear H
          go_upto_region 6 with (fail)
          go_cut [63] (fun v63 wc => ∃ (kq : Nat) (x63_14 : Bool), v63 = .bool x63_14 ∧ Aside0 (hibernacleref10_Enc.j1 kq t196 x63_14 a0_0 a0_1 a0_2 a0_3 a0_4 = some (r1, r2)) ∧ Aside0 (kq ≤ kj5) ∧ Aside0 (wc.heap[gb195]? = some (.cells #[.int .u8 a0_0, .int .u8 a0_1, .int .u8 a0_2, .int .u8 a0_3, .int .i32 a0_4] 23 (0, 0))) ∧ Aside0 (Below w.heap.size w wc))
          case first =>
            have H := HC15.out
            clear HC15
            by_cases c16 : t196 = 5
            · rw [if_pos c16] at H
              have c16b0 : (t196 == 5) = true := beq_iff_eq.mpr c16
              have c16b1 : (t196 != 5) = false := bne_eq_false_iff_eq.mpr c16
              clear c16
              (first | rw [c16b0] | (simp only [i64_w, i32_w]; rw [c16b0]) | skip)
              by_cases c17 : a0_1 = 0
              · rw [if_pos c17] at H
                have c17b0 : (a0_1 == 0) = true := beq_iff_eq.mpr c17
                have c17b1 : (a0_1 != 0) = false := bne_eq_false_iff_eq.mpr c17
                clear c17
                by_cases c18 : t196 = 3
                · rw [if_pos c18] at H
                  have c18b0 : (t196 == 3) = true := beq_iff_eq.mpr c18
                  have c18b1 : (t196 != 3) = false := bne_eq_false_iff_eq.mpr c18
                  clear c18
                  by_cases c19 : a0_2 = 0
                  · rw [if_pos c19] at H
                    have c19b0 : (a0_2 == 0) = true := beq_iff_eq.mpr c19
                    have c19b1 : (a0_2 != 0) = false := bne_eq_false_iff_eq.mpr c19
                    clear c19
                    by_cases c20 : t196 = 1
                    · rw [if_pos c20] at H
                      have c20b0 : (t196 == 1) = true := beq_iff_eq.mpr c20
                      have c20b1 : (t196 != 1) = false := bne_eq_false_iff_eq.mpr c20
                      clear c20
                      have H' := Aside0.mk H
                      clear H
                      have hcz21_0 : wc.cell? ⟨gb195, 0, none⟩ = some (.int .u8 a0_0) := (blk_cell BK195.out 0).trans rfl
                      have hcz21_1 : wc.cell? ⟨gb195, 1, none⟩ = some (.int .u8 a0_1) := (blk_cell BK195.out 1).trans rfl
                      have hcz21_2 : wc.cell? ⟨gb195, 2, none⟩ = some (.int .u8 a0_2) := (blk_cell BK195.out 2).trans rfl
                      have hcz21_3 : wc.cell? ⟨gb195, 3, none⟩ = some (.int .u8 a0_3) := (blk_cell BK195.out 3).trans rfl
                      have hcz21_4 : wc.cell? ⟨gb195, 4, none⟩ = some (.int .i32 a0_4) := (blk_cell BK195.out 4).trans rfl
                      have hfz21_0 := blk_frozen BK195.out 0
                      have hfz21_1 := blk_frozen BK195.out 1
                      have hfz21_2 := blk_frozen BK195.out 2
                      have hfz21_3 := blk_frozen BK195.out 3
                      have hfz21_4 := blk_frozen BK195.out 4
                      go_wp2
                      go_meet
                      case rel => exact ⟨_, ((a0_4 != 0)), (by first | rfl | (simp; done) | (simp [*]; done)), H', ⟨by have := HJ5.out; first | omega | exact Nat.le_refl _⟩, ⟨by (with_reducible repeat (first | refine blk_drewN ?_ _ | refine blk_drew ?_ | refine blk_alloc ?_ _)); exact BK195.out⟩, ⟨by repeat (first | (with_reducible first | exact HB.out | apply below_alloc | apply pw_below_drewN | apply below_drew1 | refine below_set ?_ GE195.out) | exact HB.out)⟩⟩
                    · rw [if_neg c20] at H
                      have c20b0 : (t196 == 1) = false := beq_eq_false_iff_ne.mpr c20
                      have c20b1 : (t196 != 1) = true := bne_iff_ne.mpr c20
                      by_cases c22 : a0_3 = 0
                      · rw [if_pos c22] at H
                        have c22b0 : (a0_3 == 0) = true := beq_iff_eq.mpr c22
                        have c22b1 : (a0_3 != 0) = false := bne_eq_false_iff_eq.mpr c22
                        clear c22
                        have H' := Aside0.mk H
                        clear H
                        have hcz23_0 : wc.cell? ⟨gb195, 0, none⟩ = some (.int .u8 a0_0) := (blk_cell BK195.out 0).trans rfl
                        have hcz23_1 : wc.cell? ⟨gb195, 1, none⟩ = some (.int .u8 a0_1) := (blk_cell BK195.out 1).trans rfl
                        have hcz23_2 : wc.cell? ⟨gb195, 2, none⟩ = some (.int .u8 a0_2) := (blk_cell BK195.out 2).trans rfl
                        have hcz23_3 : wc.cell? ⟨gb195, 3, none⟩ = some (.int .u8 a0_3) := (blk_cell BK195.out 3).trans rfl
                        have hcz23_4 : wc.cell? ⟨gb195, 4, none⟩ = some (.int .i32 a0_4) := (blk_cell BK195.out 4).trans rfl
                        have hfz23_0 := blk_frozen BK195.out 0
                        have hfz23_1 := blk_frozen BK195.out 1
                        have hfz23_2 := blk_frozen BK195.out 2
                        have hfz23_3 := blk_frozen BK195.out 3
                        have hfz23_4 := blk_frozen BK195.out 4
                        go_wp2
                        go_meet
                        case rel => exact ⟨_, (false), (by first | rfl | (simp; done) | (simp [*]; done)), H', ⟨by have := HJ5.out; first | omega | exact Nat.le_refl _⟩, ⟨by (with_reducible repeat (first | refine blk_drewN ?_ _ | refine blk_drew ?_ | refine blk_alloc ?_ _)); exact BK195.out⟩, ⟨by repeat (first | (with_reducible first | exact HB.out | apply below_alloc | apply pw_below_drewN | apply below_drew1 | refine below_set ?_ GE195.out) | exact HB.out)⟩⟩
                      · rw [if_neg c22] at H
                        have c22b0 : (a0_3 == 0) = false := beq_eq_false_iff_ne.mpr c22
                        have c22b1 : (a0_3 != 0) = true := bne_iff_ne.mpr c22
                        have H' := Aside0.mk H
                        clear H
                        have hcz24_0 : wc.cell? ⟨gb195, 0, none⟩ = some (.int .u8 a0_0) := (blk_cell BK195.out 0).trans rfl
                        have hcz24_1 : wc.cell? ⟨gb195, 1, none⟩ = some (.int .u8 a0_1) := (blk_cell BK195.out 1).trans rfl
                        have hcz24_2 : wc.cell? ⟨gb195, 2, none⟩ = some (.int .u8 a0_2) := (blk_cell BK195.out 2).trans rfl
                        have hcz24_3 : wc.cell? ⟨gb195, 3, none⟩ = some (.int .u8 a0_3) := (blk_cell BK195.out 3).trans rfl
                        have hcz24_4 : wc.cell? ⟨gb195, 4, none⟩ = some (.int .i32 a0_4) := (blk_cell BK195.out 4).trans rfl
                        have hfz24_0 := blk_frozen BK195.out 0
                        have hfz24_1 := blk_frozen BK195.out 1
                        have hfz24_2 := blk_frozen BK195.out 2
                        have hfz24_3 := blk_frozen BK195.out 3
                        have hfz24_4 := blk_frozen BK195.out 4
                        go_wp2
                        go_meet
                        case rel => exact ⟨_, (true), (by first | rfl | (simp; done) | (simp [*]; done)), H', ⟨by have := HJ5.out; first | omega | exact Nat.le_refl _⟩, ⟨by (with_reducible repeat (first | refine blk_drewN ?_ _ | refine blk_drew ?_ | refine blk_alloc ?_ _)); exact BK195.out⟩, ⟨by repeat (first | (with_reducible first | exact HB.out | apply below_alloc | apply pw_below_drewN | apply below_drew1 | refine below_set ?_ GE195.out) | exact HB.out)⟩⟩
                  · rw [if_neg c19] at H
                    have c19b0 : (a0_2 == 0) = false := beq_eq_false_iff_ne.mpr c19
                    have c19b1 : (a0_2 != 0) = true := bne_iff_ne.mpr c19
                    have H' := Aside0.mk H
                    clear H
                    have hcz25_0 : wc.cell? ⟨gb195, 0, none⟩ = some (.int .u8 a0_0) := (blk_cell BK195.out 0).trans rfl
                    have hcz25_1 : wc.cell? ⟨gb195, 1, none⟩ = some (.int .u8 a0_1) := (blk_cell BK195.out 1).trans rfl
                    have hcz25_2 : wc.cell? ⟨gb195, 2, none⟩ = some (.int .u8 a0_2) := (blk_cell BK195.out 2).trans rfl
                    have hcz25_3 : wc.cell? ⟨gb195, 3, none⟩ = some (.int .u8 a0_3) := (blk_cell BK195.out 3).trans rfl
                    have hcz25_4 : wc.cell? ⟨gb195, 4, none⟩ = some (.int .i32 a0_4) := (blk_cell BK195.out 4).trans rfl
                    have hfz25_0 := blk_frozen BK195.out 0
                    have hfz25_1 := blk_frozen BK195.out 1
                    have hfz25_2 := blk_frozen BK195.out 2
                    have hfz25_3 := blk_frozen BK195.out 3
                    have hfz25_4 := blk_frozen BK195.out 4
                    go_wp2
                    go_meet
                    case rel => exact ⟨_, (true), (by first | rfl | (simp; done) | (simp [*]; done)), H', ⟨by have := HJ5.out; first | omega | exact Nat.le_refl _⟩, ⟨by (with_reducible repeat (first | refine blk_drewN ?_ _ | refine blk_drew ?_ | refine blk_alloc ?_ _)); exact BK195.out⟩, ⟨by repeat (first | (with_reducible first | exact HB.out | apply below_alloc | apply pw_below_drewN | apply below_drew1 | refine below_set ?_ GE195.out) | exact HB.out)⟩⟩
                · rw [if_neg c18] at H
                  have c18b0 : (t196 == 3) = false := beq_eq_false_iff_ne.mpr c18
                  have c18b1 : (t196 != 3) = true := bne_iff_ne.mpr c18
                  by_cases c26 : a0_2 = 0
                  · rw [if_pos c26] at H
                    have c26b0 : (a0_2 == 0) = true := beq_iff_eq.mpr c26
                    have c26b1 : (a0_2 != 0) = false := bne_eq_false_iff_eq.mpr c26
                    clear c26
                    by_cases c27 : t196 = 1
                    · rw [if_pos c27] at H
                      have c27b0 : (t196 == 1) = true := beq_iff_eq.mpr c27
                      have c27b1 : (t196 != 1) = false := bne_eq_false_iff_eq.mpr c27
                      clear c27
                      have H' := Aside0.mk H
                      clear H
                      have hcz28_0 : wc.cell? ⟨gb195, 0, none⟩ = some (.int .u8 a0_0) := (blk_cell BK195.out 0).trans rfl
                      have hcz28_1 : wc.cell? ⟨gb195, 1, none⟩ = some (.int .u8 a0_1) := (blk_cell BK195.out 1).trans rfl
                      have hcz28_2 : wc.cell? ⟨gb195, 2, none⟩ = some (.int .u8 a0_2) := (blk_cell BK195.out 2).trans rfl
                      have hcz28_3 : wc.cell? ⟨gb195, 3, none⟩ = some (.int .u8 a0_3) := (blk_cell BK195.out 3).trans rfl
                      have hcz28_4 : wc.cell? ⟨gb195, 4, none⟩ = some (.int .i32 a0_4) := (blk_cell BK195.out 4).trans rfl
                      have hfz28_0 := blk_frozen BK195.out 0
                      have hfz28_1 := blk_frozen BK195.out 1
                      have hfz28_2 := blk_frozen BK195.out 2
                      have hfz28_3 := blk_frozen BK195.out 3
                      have hfz28_4 := blk_frozen BK195.out 4
                      go_wp2
                      go_meet
                      case rel => exact ⟨_, ((a0_4 != 0)), (by first | rfl | (simp; done) | (simp [*]; done)), H', ⟨by have := HJ5.out; first | omega | exact Nat.le_refl _⟩, ⟨by (with_reducible repeat (first | refine blk_drewN ?_ _ | refine blk_drew ?_ | refine blk_alloc ?_ _)); exact BK195.out⟩, ⟨by repeat (first | (with_reducible first | exact HB.out | apply below_alloc | apply pw_below_drewN | apply below_drew1 | refine below_set ?_ GE195.out) | exact HB.out)⟩⟩
                    · rw [if_neg c27] at H
                      have c27b0 : (t196 == 1) = false := beq_eq_false_iff_ne.mpr c27
                      have c27b1 : (t196 != 1) = true := bne_iff_ne.mpr c27
                      by_cases c29 : a0_3 = 0
                      · rw [if_pos c29] at H
                        have c29b0 : (a0_3 == 0) = true := beq_iff_eq.mpr c29
                        have c29b1 : (a0_3 != 0) = false := bne_eq_false_iff_eq.mpr c29
                        clear c29
                        have H' := Aside0.mk H
                        clear H
                        have hcz30_0 : wc.cell? ⟨gb195, 0, none⟩ = some (.int .u8 a0_0) := (blk_cell BK195.out 0).trans rfl
                        have hcz30_1 : wc.cell? ⟨gb195, 1, none⟩ = some (.int .u8 a0_1) := (blk_cell BK195.out 1).trans rfl
                        have hcz30_2 : wc.cell? ⟨gb195, 2, none⟩ = some (.int .u8 a0_2) := (blk_cell BK195.out 2).trans rfl
                        have hcz30_3 : wc.cell? ⟨gb195, 3, none⟩ = some (.int .u8 a0_3) := (blk_cell BK195.out 3).trans rfl
                        have hcz30_4 : wc.cell? ⟨gb195, 4, none⟩ = some (.int .i32 a0_4) := (blk_cell BK195.out 4).trans rfl
                        have hfz30_0 := blk_frozen BK195.out 0
                        have hfz30_1 := blk_frozen BK195.out 1
                        have hfz30_2 := blk_frozen BK195.out 2
                        have hfz30_3 := blk_frozen BK195.out 3
                        have hfz30_4 := blk_frozen BK195.out 4
                        go_wp2
                        go_meet
                        case rel => exact ⟨_, (false), (by first | rfl | (simp; done) | (simp [*]; done)), H', ⟨by have := HJ5.out; first | omega | exact Nat.le_refl _⟩, ⟨by (with_reducible repeat (first | refine blk_drewN ?_ _ | refine blk_drew ?_ | refine blk_alloc ?_ _)); exact BK195.out⟩, ⟨by repeat (first | (with_reducible first | exact HB.out | apply below_alloc | apply pw_below_drewN | apply below_drew1 | refine below_set ?_ GE195.out) | exact HB.out)⟩⟩
                      · rw [if_neg c29] at H
                        have c29b0 : (a0_3 == 0) = false := beq_eq_false_iff_ne.mpr c29
                        have c29b1 : (a0_3 != 0) = true := bne_iff_ne.mpr c29
                        have H' := Aside0.mk H
                        clear H
                        have hcz31_0 : wc.cell? ⟨gb195, 0, none⟩ = some (.int .u8 a0_0) := (blk_cell BK195.out 0).trans rfl
                        have hcz31_1 : wc.cell? ⟨gb195, 1, none⟩ = some (.int .u8 a0_1) := (blk_cell BK195.out 1).trans rfl
                        have hcz31_2 : wc.cell? ⟨gb195, 2, none⟩ = some (.int .u8 a0_2) := (blk_cell BK195.out 2).trans rfl
                        have hcz31_3 : wc.cell? ⟨gb195, 3, none⟩ = some (.int .u8 a0_3) := (blk_cell BK195.out 3).trans rfl
                        have hcz31_4 : wc.cell? ⟨gb195, 4, none⟩ = some (.int .i32 a0_4) := (blk_cell BK195.out 4).trans rfl
                        have hfz31_0 := blk_frozen BK195.out 0
                        have hfz31_1 := blk_frozen BK195.out 1
                        have hfz31_2 := blk_frozen BK195.out 2
                        have hfz31_3 := blk_frozen BK195.out 3
                        have hfz31_4 := blk_frozen BK195.out 4
                        go_wp2
                        go_meet
                        case rel => exact ⟨_, (true), (by first | rfl | (simp; done) | (simp [*]; done)), H', ⟨by have := HJ5.out; first | omega | exact Nat.le_refl _⟩, ⟨by (with_reducible repeat (first | refine blk_drewN ?_ _ | refine blk_drew ?_ | refine blk_alloc ?_ _)); exact BK195.out⟩, ⟨by repeat (first | (with_reducible first | exact HB.out | apply below_alloc | apply pw_below_drewN | apply below_drew1 | refine below_set ?_ GE195.out) | exact HB.out)⟩⟩
                  · rw [if_neg c26] at H
                    have c26b0 : (a0_2 == 0) = false := beq_eq_false_iff_ne.mpr c26
                    have c26b1 : (a0_2 != 0) = true := bne_iff_ne.mpr c26
                    have H' := Aside0.mk H
                    clear H
                    have hcz32_0 : wc.cell? ⟨gb195, 0, none⟩ = some (.int .u8 a0_0) := (blk_cell BK195.out 0).trans rfl
                    have hcz32_1 : wc.cell? ⟨gb195, 1, none⟩ = some (.int .u8 a0_1) := (blk_cell BK195.out 1).trans rfl
                    have hcz32_2 : wc.cell? ⟨gb195, 2, none⟩ = some (.int .u8 a0_2) := (blk_cell BK195.out 2).trans rfl
                    have hcz32_3 : wc.cell? ⟨gb195, 3, none⟩ = some (.int .u8 a0_3) := (blk_cell BK195.out 3).trans rfl
                    have hcz32_4 : wc.cell? ⟨gb195, 4, none⟩ = some (.int .i32 a0_4) := (blk_cell BK195.out 4).trans rfl
                    have hfz32_0 := blk_frozen BK195.out 0
                    have hfz32_1 := blk_frozen BK195.out 1
                    have hfz32_2 := blk_frozen BK195.out 2
                    have hfz32_3 := blk_frozen BK195.out 3
                    have hfz32_4 := blk_frozen BK195.out 4
                    go_wp2
                    go_meet
                    case rel => exact ⟨_, (true), (by first | rfl | (simp; done) | (simp [*]; done)), H', ⟨by have := HJ5.out; first | omega | exact Nat.le_refl _⟩, ⟨by (with_reducible repeat (first | refine blk_drewN ?_ _ | refine blk_drew ?_ | refine blk_alloc ?_ _)); exact BK195.out⟩, ⟨by repeat (first | (with_reducible first | exact HB.out | apply below_alloc | apply pw_below_drewN | apply below_drew1 | refine below_set ?_ GE195.out) | exact HB.out)⟩⟩
              · rw [if_neg c17] at H
                have c17b0 : (a0_1 == 0) = false := beq_eq_false_iff_ne.mpr c17
                have c17b1 : (a0_1 != 0) = true := bne_iff_ne.mpr c17
                have H' := Aside0.mk H
                clear H
                have hcz33_0 : wc.cell? ⟨gb195, 0, none⟩ = some (.int .u8 a0_0) := (blk_cell BK195.out 0).trans rfl
                have hcz33_1 : wc.cell? ⟨gb195, 1, none⟩ = some (.int .u8 a0_1) := (blk_cell BK195.out 1).trans rfl
                have hcz33_2 : wc.cell? ⟨gb195, 2, none⟩ = some (.int .u8 a0_2) := (blk_cell BK195.out 2).trans rfl
                have hcz33_3 : wc.cell? ⟨gb195, 3, none⟩ = some (.int .u8 a0_3) := (blk_cell BK195.out 3).trans rfl
                have hcz33_4 : wc.cell? ⟨gb195, 4, none⟩ = some (.int .i32 a0_4) := (blk_cell BK195.out 4).trans rfl
                have hfz33_0 := blk_frozen BK195.out 0
                have hfz33_1 := blk_frozen BK195.out 1
                have hfz33_2 := blk_frozen BK195.out 2
                have hfz33_3 := blk_frozen BK195.out 3
                have hfz33_4 := blk_frozen BK195.out 4
                go_wp2
                go_meet
                case rel => exact ⟨_, (true), (by first | rfl | (simp; done) | (simp [*]; done)), H', ⟨by have := HJ5.out; first | omega | exact Nat.le_refl _⟩, ⟨by (with_reducible repeat (first | refine blk_drewN ?_ _ | refine blk_drew ?_ | refine blk_alloc ?_ _)); exact BK195.out⟩, ⟨by repeat (first | (with_reducible first | exact HB.out | apply below_alloc | apply pw_below_drewN | apply below_drew1 | refine below_set ?_ GE195.out) | exact HB.out)⟩⟩
            · rw [if_neg c16] at H
              have c16b0 : (t196 == 5) = false := beq_eq_false_iff_ne.mpr c16
              have c16b1 : (t196 != 5) = true := bne_iff_ne.mpr c16
              (first | rw [c16b0] | (simp only [i64_w, i32_w]; rw [c16b0]) | skip)
              by_cases c34 : t196 = 3
              · rw [if_pos c34] at H
                have c34b0 : (t196 == 3) = true := beq_iff_eq.mpr c34
                have c34b1 : (t196 != 3) = false := bne_eq_false_iff_eq.mpr c34
                clear c34
                by_cases c35 : a0_2 = 0
                · rw [if_pos c35] at H
                  have c35b0 : (a0_2 == 0) = true := beq_iff_eq.mpr c35
                  have c35b1 : (a0_2 != 0) = false := bne_eq_false_iff_eq.mpr c35
                  clear c35
                  by_cases c36 : t196 = 1
                  · rw [if_pos c36] at H
                    have c36b0 : (t196 == 1) = true := beq_iff_eq.mpr c36
                    have c36b1 : (t196 != 1) = false := bne_eq_false_iff_eq.mpr c36
                    clear c36
                    have H' := Aside0.mk H
                    clear H
                    have hcz37_0 : wc.cell? ⟨gb195, 0, none⟩ = some (.int .u8 a0_0) := (blk_cell BK195.out 0).trans rfl
                    have hcz37_1 : wc.cell? ⟨gb195, 1, none⟩ = some (.int .u8 a0_1) := (blk_cell BK195.out 1).trans rfl
                    have hcz37_2 : wc.cell? ⟨gb195, 2, none⟩ = some (.int .u8 a0_2) := (blk_cell BK195.out 2).trans rfl
                    have hcz37_3 : wc.cell? ⟨gb195, 3, none⟩ = some (.int .u8 a0_3) := (blk_cell BK195.out 3).trans rfl
                    have hcz37_4 : wc.cell? ⟨gb195, 4, none⟩ = some (.int .i32 a0_4) := (blk_cell BK195.out 4).trans rfl
                    have hfz37_0 := blk_frozen BK195.out 0
                    have hfz37_1 := blk_frozen BK195.out 1
                    have hfz37_2 := blk_frozen BK195.out 2
                    have hfz37_3 := blk_frozen BK195.out 3
                    have hfz37_4 := blk_frozen BK195.out 4
                    go_wp2
                    go_meet
                    case rel => exact ⟨_, ((a0_4 != 0)), (by first | rfl | (simp; done) | (simp [*]; done)), H', ⟨by have := HJ5.out; first | omega | exact Nat.le_refl _⟩, ⟨by (with_reducible repeat (first | refine blk_drewN ?_ _ | refine blk_drew ?_ | refine blk_alloc ?_ _)); exact BK195.out⟩, ⟨by repeat (first | (with_reducible first | exact HB.out | apply below_alloc | apply pw_below_drewN | apply below_drew1 | refine below_set ?_ GE195.out) | exact HB.out)⟩⟩
                  · rw [if_neg c36] at H
                    have c36b0 : (t196 == 1) = false := beq_eq_false_iff_ne.mpr c36
                    have c36b1 : (t196 != 1) = true := bne_iff_ne.mpr c36
                    by_cases c38 : a0_3 = 0
                    · rw [if_pos c38] at H
                      have c38b0 : (a0_3 == 0) = true := beq_iff_eq.mpr c38
                      have c38b1 : (a0_3 != 0) = false := bne_eq_false_iff_eq.mpr c38
                      clear c38
                      have H' := Aside0.mk H
                      clear H
                      have hcz39_0 : wc.cell? ⟨gb195, 0, none⟩ = some (.int .u8 a0_0) := (blk_cell BK195.out 0).trans rfl
                      have hcz39_1 : wc.cell? ⟨gb195, 1, none⟩ = some (.int .u8 a0_1) := (blk_cell BK195.out 1).trans rfl
                      have hcz39_2 : wc.cell? ⟨gb195, 2, none⟩ = some (.int .u8 a0_2) := (blk_cell BK195.out 2).trans rfl
                      have hcz39_3 : wc.cell? ⟨gb195, 3, none⟩ = some (.int .u8 a0_3) := (blk_cell BK195.out 3).trans rfl
                      have hcz39_4 : wc.cell? ⟨gb195, 4, none⟩ = some (.int .i32 a0_4) := (blk_cell BK195.out 4).trans rfl
                      have hfz39_0 := blk_frozen BK195.out 0
                      have hfz39_1 := blk_frozen BK195.out 1
                      have hfz39_2 := blk_frozen BK195.out 2
                      have hfz39_3 := blk_frozen BK195.out 3
                      have hfz39_4 := blk_frozen BK195.out 4
                      go_wp2
                      go_meet
                      case rel => exact ⟨_, (false), (by first | rfl | (simp; done) | (simp [*]; done)), H', ⟨by have := HJ5.out; first | omega | exact Nat.le_refl _⟩, ⟨by (with_reducible repeat (first | refine blk_drewN ?_ _ | refine blk_drew ?_ | refine blk_alloc ?_ _)); exact BK195.out⟩, ⟨by repeat (first | (with_reducible first | exact HB.out | apply below_alloc | apply pw_below_drewN | apply below_drew1 | refine below_set ?_ GE195.out) | exact HB.out)⟩⟩
                    · rw [if_neg c38] at H
                      have c38b0 : (a0_3 == 0) = false := beq_eq_false_iff_ne.mpr c38
                      have c38b1 : (a0_3 != 0) = true := bne_iff_ne.mpr c38
                      have H' := Aside0.mk H
                      clear H
                      have hcz40_0 : wc.cell? ⟨gb195, 0, none⟩ = some (.int .u8 a0_0) := (blk_cell BK195.out 0).trans rfl
                      have hcz40_1 : wc.cell? ⟨gb195, 1, none⟩ = some (.int .u8 a0_1) := (blk_cell BK195.out 1).trans rfl
                      have hcz40_2 : wc.cell? ⟨gb195, 2, none⟩ = some (.int .u8 a0_2) := (blk_cell BK195.out 2).trans rfl
                      have hcz40_3 : wc.cell? ⟨gb195, 3, none⟩ = some (.int .u8 a0_3) := (blk_cell BK195.out 3).trans rfl
                      have hcz40_4 : wc.cell? ⟨gb195, 4, none⟩ = some (.int .i32 a0_4) := (blk_cell BK195.out 4).trans rfl
                      have hfz40_0 := blk_frozen BK195.out 0
                      have hfz40_1 := blk_frozen BK195.out 1
                      have hfz40_2 := blk_frozen BK195.out 2
                      have hfz40_3 := blk_frozen BK195.out 3
                      have hfz40_4 := blk_frozen BK195.out 4
                      go_wp2
                      go_meet
                      case rel => exact ⟨_, (true), (by first | rfl | (simp; done) | (simp [*]; done)), H', ⟨by have := HJ5.out; first | omega | exact Nat.le_refl _⟩, ⟨by (with_reducible repeat (first | refine blk_drewN ?_ _ | refine blk_drew ?_ | refine blk_alloc ?_ _)); exact BK195.out⟩, ⟨by repeat (first | (with_reducible first | exact HB.out | apply below_alloc | apply pw_below_drewN | apply below_drew1 | refine below_set ?_ GE195.out) | exact HB.out)⟩⟩
                · rw [if_neg c35] at H
                  have c35b0 : (a0_2 == 0) = false := beq_eq_false_iff_ne.mpr c35
                  have c35b1 : (a0_2 != 0) = true := bne_iff_ne.mpr c35
                  have H' := Aside0.mk H
                  clear H
                  have hcz41_0 : wc.cell? ⟨gb195, 0, none⟩ = some (.int .u8 a0_0) := (blk_cell BK195.out 0).trans rfl
                  have hcz41_1 : wc.cell? ⟨gb195, 1, none⟩ = some (.int .u8 a0_1) := (blk_cell BK195.out 1).trans rfl
                  have hcz41_2 : wc.cell? ⟨gb195, 2, none⟩ = some (.int .u8 a0_2) := (blk_cell BK195.out 2).trans rfl
                  have hcz41_3 : wc.cell? ⟨gb195, 3, none⟩ = some (.int .u8 a0_3) := (blk_cell BK195.out 3).trans rfl
                  have hcz41_4 : wc.cell? ⟨gb195, 4, none⟩ = some (.int .i32 a0_4) := (blk_cell BK195.out 4).trans rfl
                  have hfz41_0 := blk_frozen BK195.out 0
                  have hfz41_1 := blk_frozen BK195.out 1
                  have hfz41_2 := blk_frozen BK195.out 2
                  have hfz41_3 := blk_frozen BK195.out 3
                  have hfz41_4 := blk_frozen BK195.out 4
                  go_wp2
                  go_meet
                  case rel => exact ⟨_, (true), (by first | rfl | (simp; done) | (simp [*]; done)), H', ⟨by have := HJ5.out; first | omega | exact Nat.le_refl _⟩, ⟨by (with_reducible repeat (first | refine blk_drewN ?_ _ | refine blk_drew ?_ | refine blk_alloc ?_ _)); exact BK195.out⟩, ⟨by repeat (first | (with_reducible first | exact HB.out | apply below_alloc | apply pw_below_drewN | apply below_drew1 | refine below_set ?_ GE195.out) | exact HB.out)⟩⟩
              · rw [if_neg c34] at H
                have c34b0 : (t196 == 3) = false := beq_eq_false_iff_ne.mpr c34
                have c34b1 : (t196 != 3) = true := bne_iff_ne.mpr c34
                by_cases c42 : t196 = 1
                · rw [if_pos c42] at H
                  have c42b0 : (t196 == 1) = true := beq_iff_eq.mpr c42
                  have c42b1 : (t196 != 1) = false := bne_eq_false_iff_eq.mpr c42
                  clear c42
                  have H' := Aside0.mk H
                  clear H
                  have hcz43_0 : wc.cell? ⟨gb195, 0, none⟩ = some (.int .u8 a0_0) := (blk_cell BK195.out 0).trans rfl
                  have hcz43_1 : wc.cell? ⟨gb195, 1, none⟩ = some (.int .u8 a0_1) := (blk_cell BK195.out 1).trans rfl
                  have hcz43_2 : wc.cell? ⟨gb195, 2, none⟩ = some (.int .u8 a0_2) := (blk_cell BK195.out 2).trans rfl
                  have hcz43_3 : wc.cell? ⟨gb195, 3, none⟩ = some (.int .u8 a0_3) := (blk_cell BK195.out 3).trans rfl
                  have hcz43_4 : wc.cell? ⟨gb195, 4, none⟩ = some (.int .i32 a0_4) := (blk_cell BK195.out 4).trans rfl
                  have hfz43_0 := blk_frozen BK195.out 0
                  have hfz43_1 := blk_frozen BK195.out 1
                  have hfz43_2 := blk_frozen BK195.out 2
                  have hfz43_3 := blk_frozen BK195.out 3
                  have hfz43_4 := blk_frozen BK195.out 4
                  go_wp2
                  go_meet
                  case rel => exact ⟨_, ((a0_4 != 0)), (by first | rfl | (simp; done) | (simp [*]; done)), H', ⟨by have := HJ5.out; first | omega | exact Nat.le_refl _⟩, ⟨by (with_reducible repeat (first | refine blk_drewN ?_ _ | refine blk_drew ?_ | refine blk_alloc ?_ _)); exact BK195.out⟩, ⟨by repeat (first | (with_reducible first | exact HB.out | apply below_alloc | apply pw_below_drewN | apply below_drew1 | refine below_set ?_ GE195.out) | exact HB.out)⟩⟩
                · rw [if_neg c42] at H
                  have c42b0 : (t196 == 1) = false := beq_eq_false_iff_ne.mpr c42
                  have c42b1 : (t196 != 1) = true := bne_iff_ne.mpr c42
                  by_cases c44 : a0_3 = 0
                  · rw [if_pos c44] at H
                    have c44b0 : (a0_3 == 0) = true := beq_iff_eq.mpr c44
                    have c44b1 : (a0_3 != 0) = false := bne_eq_false_iff_eq.mpr c44
                    clear c44
                    have H' := Aside0.mk H
                    clear H
                    have hcz45_0 : wc.cell? ⟨gb195, 0, none⟩ = some (.int .u8 a0_0) := (blk_cell BK195.out 0).trans rfl
                    have hcz45_1 : wc.cell? ⟨gb195, 1, none⟩ = some (.int .u8 a0_1) := (blk_cell BK195.out 1).trans rfl
                    have hcz45_2 : wc.cell? ⟨gb195, 2, none⟩ = some (.int .u8 a0_2) := (blk_cell BK195.out 2).trans rfl
                    have hcz45_3 : wc.cell? ⟨gb195, 3, none⟩ = some (.int .u8 a0_3) := (blk_cell BK195.out 3).trans rfl
                    have hcz45_4 : wc.cell? ⟨gb195, 4, none⟩ = some (.int .i32 a0_4) := (blk_cell BK195.out 4).trans rfl
                    have hfz45_0 := blk_frozen BK195.out 0
                    have hfz45_1 := blk_frozen BK195.out 1
                    have hfz45_2 := blk_frozen BK195.out 2
                    have hfz45_3 := blk_frozen BK195.out 3
                    have hfz45_4 := blk_frozen BK195.out 4
                    go_wp2
                    go_meet
                    case rel => exact ⟨_, (false), (by first | rfl | (simp; done) | (simp [*]; done)), H', ⟨by have := HJ5.out; first | omega | exact Nat.le_refl _⟩, ⟨by (with_reducible repeat (first | refine blk_drewN ?_ _ | refine blk_drew ?_ | refine blk_alloc ?_ _)); exact BK195.out⟩, ⟨by repeat (first | (with_reducible first | exact HB.out | apply below_alloc | apply pw_below_drewN | apply below_drew1 | refine below_set ?_ GE195.out) | exact HB.out)⟩⟩
                  · rw [if_neg c44] at H
                    have c44b0 : (a0_3 == 0) = false := beq_eq_false_iff_ne.mpr c44
                    have c44b1 : (a0_3 != 0) = true := bne_iff_ne.mpr c44
                    have H' := Aside0.mk H
                    clear H
                    have hcz46_0 : wc.cell? ⟨gb195, 0, none⟩ = some (.int .u8 a0_0) := (blk_cell BK195.out 0).trans rfl
                    have hcz46_1 : wc.cell? ⟨gb195, 1, none⟩ = some (.int .u8 a0_1) := (blk_cell BK195.out 1).trans rfl
                    have hcz46_2 : wc.cell? ⟨gb195, 2, none⟩ = some (.int .u8 a0_2) := (blk_cell BK195.out 2).trans rfl
                    have hcz46_3 : wc.cell? ⟨gb195, 3, none⟩ = some (.int .u8 a0_3) := (blk_cell BK195.out 3).trans rfl
                    have hcz46_4 : wc.cell? ⟨gb195, 4, none⟩ = some (.int .i32 a0_4) := (blk_cell BK195.out 4).trans rfl
                    have hfz46_0 := blk_frozen BK195.out 0
                    have hfz46_1 := blk_frozen BK195.out 1
                    have hfz46_2 := blk_frozen BK195.out 2
                    have hfz46_3 := blk_frozen BK195.out 3
                    have hfz46_4 := blk_frozen BK195.out 4
                    go_wp2
                    go_meet
                    case rel => exact ⟨_, (true), (by first | rfl | (simp; done) | (simp [*]; done)), H', ⟨by have := HJ5.out; first | omega | exact Nat.le_refl _⟩, ⟨by (with_reducible repeat (first | refine blk_drewN ?_ _ | refine blk_drew ?_ | refine blk_alloc ?_ _)); exact BK195.out⟩, ⟨by repeat (first | (with_reducible first | exact HB.out | apply below_alloc | apply pw_below_drewN | apply below_drew1 | refine below_set ?_ GE195.out) | exact HB.out)⟩⟩
          case rest =>
            clear HC15
            try clear c1
            try clear c2
            try clear p2
            try clear c3
            try clear c3b0
            try clear c3b1
            try clear c4
            try clear c9
            try clear c9b0
            try clear c11
            try clear c11b0
            try clear c12
            try clear c14
            try clear c16
            try clear c16b0
            try clear c16b1
            try clear c17
            try clear c17b0
            try clear c17b1
            try clear c18
            try clear c18b0
            try clear c18b1
            try clear c19
            try clear c19b0
            try clear c19b1
            try clear c20
            try clear c20b0
            try clear c20b1
            try clear c22
            try clear c22b0
            try clear c22b1
            try clear c26
            try clear c26b0
            try clear c26b1
            try clear c27
            try clear c27b0
            try clear c27b1
            try clear c29
            try clear c29b0
            try clear c29b1
            try clear c34
            try clear c34b0
            try clear c34b1
            try clear c35
            try clear c35b0
            try clear c35b1
            try clear c36
            try clear c36b0
            try clear c36b1
            try clear c38
            try clear c38b0
            try clear c38b1
            try clear c42
            try clear c42b0
            try clear c42b1
            try clear c44
            try clear c44b0
            try clear c44b1
            try clear hcz10_0
            try clear hcz10_1
            try clear hcz10_2
            try clear hcz10_3
            try clear hcz10_4
            try clear hcz12_0
            try clear hcz12_1
            try clear hcz12_2
            try clear hcz12_3
            try clear hcz12_4
            try clear hcz13_0
            try clear hcz13_1
            try clear hcz13_2
            try clear hcz13_3
            try clear hcz13_4
            try clear hcz21_0
            try clear hcz21_1
            try clear hcz21_2
            try clear hcz21_3
            try clear hcz21_4
            try clear hcz23_0
            try clear hcz23_1
            try clear hcz23_2
            try clear hcz23_3
            try clear hcz23_4
            try clear hcz24_0
            try clear hcz24_1
            try clear hcz24_2
            try clear hcz24_3
            try clear hcz24_4
            try clear hcz25_0
            try clear hcz25_1
            try clear hcz25_2
            try clear hcz25_3
            try clear hcz25_4
            try clear hcz28_0
            try clear hcz28_1
            try clear hcz28_2
            try clear hcz28_3
            try clear hcz28_4
            try clear hcz30_0
            try clear hcz30_1
            try clear hcz30_2
            try clear hcz30_3
            try clear hcz30_4
            try clear hcz31_0
            try clear hcz31_1
            try clear hcz31_2
            try clear hcz31_3
            try clear hcz31_4
            try clear hcz32_0
            try clear hcz32_1
            try clear hcz32_2
            try clear hcz32_3
            try clear hcz32_4
            try clear hcz33_0
            try clear hcz33_1
            try clear hcz33_2
            try clear hcz33_3
            try clear hcz33_4
            try clear hcz37_0
            try clear hcz37_1
            try clear hcz37_2
            try clear hcz37_3
            try clear hcz37_4
            try clear hcz39_0
            try clear hcz39_1
            try clear hcz39_2
            try clear hcz39_3
            try clear hcz39_4
            try clear hcz40_0
            try clear hcz40_1
            try clear hcz40_2
            try clear hcz40_3
            try clear hcz40_4
            try clear hcz41_0
            try clear hcz41_1
            try clear hcz41_2
            try clear hcz41_3
            try clear hcz41_4
            try clear hcz43_0
            try clear hcz43_1
            try clear hcz43_2
            try clear hcz43_3
            try clear hcz43_4
            try clear hcz45_0
            try clear hcz45_1
            try clear hcz45_2
            try clear hcz45_3
            try clear hcz45_4
            try clear hcz46_0
            try clear hcz46_1
            try clear hcz46_2
            try clear hcz46_3
            try clear hcz46_4
            try clear hcz5_0
            try clear hcz5_1
            try clear hcz5_2
            try clear hcz5_3
            try clear hcz5_4
            try clear hcz8_0
            try clear hcz8_1
            try clear hcz8_2
            try clear hcz8_3
            try clear hcz8_4
            try clear hfz10_0
            try clear hfz10_1
            try clear hfz10_2
            try clear hfz10_3
            try clear hfz10_4
            try clear hfz12_0
            try clear hfz12_1
            try clear hfz12_2
            try clear hfz12_3
            try clear hfz12_4
            try clear hfz13_0
            try clear hfz13_1
            try clear hfz13_2
            try clear hfz13_3
            try clear hfz13_4
            try clear hfz21_0
            try clear hfz21_1
            try clear hfz21_2
            try clear hfz21_3
            try clear hfz21_4
            try clear hfz23_0
            try clear hfz23_1
            try clear hfz23_2
            try clear hfz23_3
            try clear hfz23_4
            try clear hfz24_0
            try clear hfz24_1
            try clear hfz24_2
            try clear hfz24_3
            try clear hfz24_4
            try clear hfz25_0
            try clear hfz25_1
            try clear hfz25_2
            try clear hfz25_3
            try clear hfz25_4
            try clear hfz28_0
            try clear hfz28_1
            try clear hfz28_2
            try clear hfz28_3
            try clear hfz28_4
            try clear hfz30_0
            try clear hfz30_1
            try clear hfz30_2
            try clear hfz30_3
            try clear hfz30_4
            try clear hfz31_0
            try clear hfz31_1
            try clear hfz31_2
            try clear hfz31_3
            try clear hfz31_4
            try clear hfz32_0
            try clear hfz32_1
            try clear hfz32_2
            try clear hfz32_3
            try clear hfz32_4
            try clear hfz33_0
            try clear hfz33_1
            try clear hfz33_2
            try clear hfz33_3
            try clear hfz33_4
            try clear hfz37_0
            try clear hfz37_1
            try clear hfz37_2
            try clear hfz37_3
            try clear hfz37_4
            try clear hfz39_0
            try clear hfz39_1
            try clear hfz39_2
            try clear hfz39_3
            try clear hfz39_4
            try clear hfz40_0
            try clear hfz40_1
            try clear hfz40_2
            try clear hfz40_3
            try clear hfz40_4
            try clear hfz41_0
            try clear hfz41_1
            try clear hfz41_2
            try clear hfz41_3
            try clear hfz41_4
            try clear hfz43_0
            try clear hfz43_1
            try clear hfz43_2
            try clear hfz43_3
            try clear hfz43_4
            try clear hfz45_0
            try clear hfz45_1
            try clear hfz45_2
            try clear hfz45_3
            try clear hfz45_4
            try clear hfz46_0
            try clear hfz46_1
            try clear hfz46_2
            try clear hfz46_3
            try clear hfz46_4
            try clear hfz5_0
            try clear hfz5_1
            try clear hfz5_2
            try clear hfz5_3
            try clear hfz5_4
            try clear hfz8_0
            try clear hfz8_1
            try clear hfz8_2
            try clear hfz8_3
            try clear hfz8_4
            try clear p2
            obtain ⟨kq, x63_14, rfl, HA, HJ14, BK195, HB⟩ := hcut
            cases kq with
            | zero => exact absurd HA.out (by simp [hibernacleref10_Enc.j1])
            | succ kj14 =>
              have H := HA.out
              clear HA
              simp only [hibernacleref10_Enc.j1] at H
              by_cases c47 : x63_14 = true
              · subst c47
                have H1 : (some (0, 1)) = some (r1, r2) := by rw [if_pos rfl] at H; exact H
                clear H
                have H := H1
                clear H1
                simp only [Option.some.injEq, Prod.mk.injEq] at H
                obtain ⟨rfl, rfl⟩ := H
                go_wp2
                go_ret2
                exact ⟨by first | rfl | (simp [errW_none, errW_some] <;> rfl) | (simp [errW_none, errW_some, IntKind.wrap_u32] <;> omega) | (simp [*, errW_none, errW_some] <;> rfl), by repeat (first | (with_reducible first | exact HB.out | apply below_alloc | apply pw_below_drewN | apply below_drew1 | refine below_set ?_ GE195.out) | exact HB.out)⟩
              · replace c47 := Bool.eq_false_iff.mpr c47
                subst c47
                have H1 : (if t196 = 1 then (some (((((((((((((IntKind.u32.wrap (a0_0)) * 16) % 4294967296) + (IntKind.u32.wrap (a0_1))) % 4294967296) * 16) % 4294967296) + (IntKind.u32.wrap (a0_2))) % 4294967296) * 262144) % 4294967296) + (((IntKind.u32.wrap (a0_3)) * 16384) % 4294967296)) % 4294967296, 0)) else ((hibernacleref10_plain.f a0_0).bind fun t197 => (if t197 = true then (hibernacleref10_Enc.j2 kj14 0 65535 a0_0 a0_1 a0_2 a0_3 a0_4) else (hibernacleref10_Enc.j2 kj14 (-32768) 32767 a0_0 a0_1 a0_2 a0_3 a0_4)))) = some (r1, r2) := by rw [if_neg (show ¬ (false = true) by decide)] at H; exact H
                clear H
                have H := H1
                clear H1
                by_cases c48 : t196 = 1
                · rw [if_pos c48] at H
                  have c48b0 : (t196 == 1) = true := beq_iff_eq.mpr c48
                  have c48b1 : (t196 != 1) = false := bne_eq_false_iff_eq.mpr c48
                  clear c48
                  simp only [Option.some.injEq, Prod.mk.injEq] at H
                  obtain ⟨rfl, rfl⟩ := H
                  have hcz49_0 : wc.cell? ⟨gb195, 0, none⟩ = some (.int .u8 a0_0) := (blk_cell BK195.out 0).trans rfl
                  have hcz49_1 : wc.cell? ⟨gb195, 1, none⟩ = some (.int .u8 a0_1) := (blk_cell BK195.out 1).trans rfl
                  have hcz49_2 : wc.cell? ⟨gb195, 2, none⟩ = some (.int .u8 a0_2) := (blk_cell BK195.out 2).trans rfl
                  have hcz49_3 : wc.cell? ⟨gb195, 3, none⟩ = some (.int .u8 a0_3) := (blk_cell BK195.out 3).trans rfl
                  have hcz49_4 : wc.cell? ⟨gb195, 4, none⟩ = some (.int .i32 a0_4) := (blk_cell BK195.out 4).trans rfl
                  have hfz49_0 := blk_frozen BK195.out 0
                  have hfz49_1 := blk_frozen BK195.out 1
                  have hfz49_2 := blk_frozen BK195.out 2
                  have hfz49_3 := blk_frozen BK195.out 3
                  have hfz49_4 := blk_frozen BK195.out 4
                  go_wp2
                  go_ret2
                  exact ⟨by first | rfl | (simp [errW_none, errW_some] <;> rfl) | (simp [errW_none, errW_some, IntKind.wrap_u32] <;> omega) | (simp [*, errW_none, errW_some] <;> rfl), by repeat (first | (with_reducible first | exact HB.out | apply below_alloc | apply pw_below_drewN | apply below_drew1 | refine below_set ?_ GE195.out) | exact HB.out)⟩
                · rw [if_neg c48] at H
                  have c48b0 : (t196 == 1) = false := beq_eq_false_iff_ne.mpr c48
                  have c48b1 : (t196 != 1) = true := bne_iff_ne.mpr c48
                  replace H := Option.bind_eq_some_iff.mp H
                  obtain ⟨t197, A500, H⟩ := H
                  replace H : (if t197 = true then (hibernacleref10_Enc.j2 kj14 0 65535 a0_0 a0_1 a0_2 a0_3 a0_4) else (hibernacleref10_Enc.j2 kj14 (-32768) 32767 a0_0 a0_1 a0_2 a0_3 a0_4)) = some (r1, r2) := H
                  have A50 := Aside0.mk A500
                  clear A500
                  have HC51 := Aside0.mk H
                  clear H
                  have hcz52_0 : wc.cell? ⟨gb195, 0, none⟩ = some (.int .u8 a0_0) := (blk_cell BK195.out 0).trans rfl
                  have hcz52_1 : wc.cell? ⟨gb195, 1, none⟩ = some (.int .u8 a0_1) := (blk_cell BK195.out 1).trans rfl
                  have hcz52_2 : wc.cell? ⟨gb195, 2, none⟩ = some (.int .u8 a0_2) := (blk_cell BK195.out 2).trans rfl
                  have hcz52_3 : wc.cell? ⟨gb195, 3, none⟩ = some (.int .u8 a0_3) := (blk_cell BK195.out 3).trans rfl
                  have hcz52_4 : wc.cell? ⟨gb195, 4, none⟩ = some (.int .i32 a0_4) := (blk_cell BK195.out 4).trans rfl
                  have hfz52_0 := blk_frozen BK195.out 0
                  have hfz52_1 := blk_frozen BK195.out 1
                  have hfz52_2 := blk_frozen BK195.out 2
                  have hfz52_3 := blk_frozen BK195.out 3
                  have hfz52_4 := blk_frozen BK195.out 4
                  go_upto_if 87 with (first | ((with_reducible refine gate_callee (f := 23) rfl ?_); refine goesL_ (some 87) rfl rfl Tryd.func23 (by kernel_rfl) rfl #[.int .u8 a0_0] rfl (by (try simp only [List.map_toArray, List.map_cons, List.map_nil]); first | done | rfl | (simp only [List.length_drop, List.length_take]; rfl)) ?_; (with_reducible refine (hibernacleref10_plain.calls a0_0 t197 _ A50.out).mono ?_); rintro e w' ⟨rfl, ⟨nd, rfl⟩⟩; refine ⟨_, rfl, ?_⟩))
                  (try simp only [Act.put, List.setIfInBounds_toArray, List.set_cons_zero, List.set_cons_succ])
                  go_cut [5, 6] (fun v5 v6 wc => ∃ (kq : Nat) (x5_50 : Int) (x6_50 : Int), v5 = .int .i32 x5_50 ∧ v6 = .int .i32 x6_50 ∧ Aside0 (hibernacleref10_Enc.j2 kq x5_50 x6_50 a0_0 a0_1 a0_2 a0_3 a0_4 = some (r1, r2)) ∧ Aside0 (kq ≤ kj14) ∧ Aside0 (wc.heap[gb195]? = some (.cells #[.int .u8 a0_0, .int .u8 a0_1, .int .u8 a0_2, .int .u8 a0_3, .int .i32 a0_4] 23 (0, 0))) ∧ Aside0 (Below w.heap.size w wc))
                  case first =>
                    have H := HC51.out
                    clear HC51
                    by_cases c53 : t197 = true
                    · subst c53
                      have H1 : (hibernacleref10_Enc.j2 kj14 0 65535 a0_0 a0_1 a0_2 a0_3 a0_4) = some (r1, r2) := by rw [if_pos rfl] at H; exact H
                      clear H
                      have H := H1
                      clear H1
                      have H' := Aside0.mk H
                      clear H
                      go_wp2
                      go_meet
                      case rel => exact ⟨_, (0), (65535), (by first | rfl | (simp; done) | (simp [*]; done)), (by first | rfl | (simp; done) | (simp [*]; done)), H', ⟨by have := HJ5.out; have := HJ14.out; first | omega | exact Nat.le_refl _⟩, ⟨by (with_reducible repeat (first | refine blk_drewN ?_ _ | refine blk_drew ?_ | refine blk_alloc ?_ _)); exact BK195.out⟩, ⟨by repeat (first | (with_reducible first | exact HB.out | apply below_alloc | apply pw_below_drewN | apply below_drew1 | refine below_set ?_ GE195.out) | exact HB.out)⟩⟩
                    · replace c53 := Bool.eq_false_iff.mpr c53
                      subst c53
                      have H1 : (hibernacleref10_Enc.j2 kj14 (-32768) 32767 a0_0 a0_1 a0_2 a0_3 a0_4) = some (r1, r2) := by rw [if_neg (show ¬ (false = true) by decide)] at H; exact H
                      clear H
                      have H := H1
                      clear H1
                      have H' := Aside0.mk H
                      clear H
                      go_wp2
                      go_meet
                      case rel => exact ⟨_, ((-32768)), (32767), (by first | rfl | (simp; done) | (simp [*]; done)), (by first | rfl | (simp; done) | (simp [*]; done)), H', ⟨by have := HJ5.out; have := HJ14.out; first | omega | exact Nat.le_refl _⟩, ⟨by (with_reducible repeat (first | refine blk_drewN ?_ _ | refine blk_drew ?_ | refine blk_alloc ?_ _)); exact BK195.out⟩, ⟨by repeat (first | (with_reducible first | exact HB.out | apply below_alloc | apply pw_below_drewN | apply below_drew1 | refine below_set ?_ GE195.out) | exact HB.out)⟩⟩
                  case rest =>
                    clear HC51
                    try clear c1
                    try clear c2
                    try clear p2
                    try clear c3
                    try clear c3b0
                    try clear c3b1
                    try clear c4
                    try clear c5
                    try clear c9
                    try clear c9b0
                    try clear c11
                    try clear c11b0
                    try clear c12
                    try clear c14
                    try clear c16
                    try clear c16b0
                    try clear c16b1
                    try clear c17
                    try clear c17b0
                    try clear c17b1
                    try clear c18
                    try clear c18b0
                    try clear c18b1
                    try clear c19
                    try clear c19b0
                    try clear c19b1
                    try clear c20
                    try clear c20b0
                    try clear c20b1
                    try clear c22
                    try clear c22b0
                    try clear c22b1
                    try clear c23
                    try clear c26
                    try clear c26b0
                    try clear c26b1
                    try clear c27
                    try clear c27b0
                    try clear c27b1
                    try clear c29
                    try clear c29b0
                    try clear c29b1
                    try clear c34
                    try clear c34b0
                    try clear c34b1
                    try clear c35
                    try clear c35b0
                    try clear c35b1
                    try clear c36
                    try clear c36b0
                    try clear c36b1
                    try clear c38
                    try clear c38b0
                    try clear c38b1
                    try clear c42
                    try clear c42b0
                    try clear c42b1
                    try clear c44
                    try clear c44b0
                    try clear c44b1
                    try clear c47
                    try clear c48
                    try clear c48b0
                    try clear c48b1
                    try clear c53
                    try clear hcz10_0
                    try clear hcz10_1
                    try clear hcz10_2
                    try clear hcz10_3
                    try clear hcz10_4
                    try clear hcz12_0
                    try clear hcz12_1
                    try clear hcz12_2
                    try clear hcz12_3
                    try clear hcz12_4
                    try clear hcz13_0
                    try clear hcz13_1
                    try clear hcz13_2
                    try clear hcz13_3
                    try clear hcz13_4
                    try clear hcz21_0
                    try clear hcz21_1
                    try clear hcz21_2
                    try clear hcz21_3
                    try clear hcz21_4
                    try clear hcz23_0
                    try clear hcz23_1
                    try clear hcz23_2
                    try clear hcz23_3
                    try clear hcz23_4
                    try clear hcz24_0
                    try clear hcz24_1
                    try clear hcz24_2
                    try clear hcz24_3
                    try clear hcz24_4
                    try clear hcz25_0
                    try clear hcz25_1
                    try clear hcz25_2
                    try clear hcz25_3
                    try clear hcz25_4
                    try clear hcz28_0
                    try clear hcz28_1
                    try clear hcz28_2
                    try clear hcz28_3
                    try clear hcz28_4
                    try clear hcz30_0
                    try clear hcz30_1
                    try clear hcz30_2
                    try clear hcz30_3
                    try clear hcz30_4
                    try clear hcz31_0
                    try clear hcz31_1
                    try clear hcz31_2
                    try clear hcz31_3
                    try clear hcz31_4
                    try clear hcz32_0
                    try clear hcz32_1
                    try clear hcz32_2
                    try clear hcz32_3
                    try clear hcz32_4
                    try clear hcz33_0
                    try clear hcz33_1
                    try clear hcz33_2
                    try clear hcz33_3
                    try clear hcz33_4
                    try clear hcz37_0
                    try clear hcz37_1
                    try clear hcz37_2
                    try clear hcz37_3
                    try clear hcz37_4
                    try clear hcz39_0
                    try clear hcz39_1
                    try clear hcz39_2
                    try clear hcz39_3
                    try clear hcz39_4
                    try clear hcz40_0
                    try clear hcz40_1
                    try clear hcz40_2
                    try clear hcz40_3
                    try clear hcz40_4
                    try clear hcz41_0
                    try clear hcz41_1
                    try clear hcz41_2
                    try clear hcz41_3
                    try clear hcz41_4
                    try clear hcz43_0
                    try clear hcz43_1
                    try clear hcz43_2
                    try clear hcz43_3
                    try clear hcz43_4
                    try clear hcz45_0
                    try clear hcz45_1
                    try clear hcz45_2
                    try clear hcz45_3
                    try clear hcz45_4
                    try clear hcz46_0
                    try clear hcz46_1
                    try clear hcz46_2
                    try clear hcz46_3
                    try clear hcz46_4
                    try clear hcz49_0
                    try clear hcz49_1
                    try clear hcz49_2
                    try clear hcz49_3
                    try clear hcz49_4
                    try clear hcz52_0
                    try clear hcz52_1
                    try clear hcz52_2
                    try clear hcz52_3
                    try clear hcz52_4
                    try clear hcz5_0
                    try clear hcz5_1
                    try clear hcz5_2
                    try clear hcz5_3
                    try clear hcz5_4
                    try clear hcz8_0
                    try clear hcz8_1
                    try clear hcz8_2
                    try clear hcz8_3
                    try clear hcz8_4
                    try clear hfz10_0
                    try clear hfz10_1
                    try clear hfz10_2
                    try clear hfz10_3
                    try clear hfz10_4
                    try clear hfz12_0
                    try clear hfz12_1
                    try clear hfz12_2
                    try clear hfz12_3
                    try clear hfz12_4
                    try clear hfz13_0
                    try clear hfz13_1
                    try clear hfz13_2
                    try clear hfz13_3
                    try clear hfz13_4
                    try clear hfz21_0
                    try clear hfz21_1
                    try clear hfz21_2
                    try clear hfz21_3
                    try clear hfz21_4
                    try clear hfz23_0
                    try clear hfz23_1
                    try clear hfz23_2
                    try clear hfz23_3
                    try clear hfz23_4
                    try clear hfz24_0
                    try clear hfz24_1
                    try clear hfz24_2
                    try clear hfz24_3
                    try clear hfz24_4
                    try clear hfz25_0
                    try clear hfz25_1
                    try clear hfz25_2
                    try clear hfz25_3
                    try clear hfz25_4
                    try clear hfz28_0
                    try clear hfz28_1
                    try clear hfz28_2
                    try clear hfz28_3
                    try clear hfz28_4
                    try clear hfz30_0
                    try clear hfz30_1
                    try clear hfz30_2
                    try clear hfz30_3
                    try clear hfz30_4
                    try clear hfz31_0
                    try clear hfz31_1
                    try clear hfz31_2
                    try clear hfz31_3
                    try clear hfz31_4
                    try clear hfz32_0
                    try clear hfz32_1
                    try clear hfz32_2
                    try clear hfz32_3
                    try clear hfz32_4
                    try clear hfz33_0
                    try clear hfz33_1
                    try clear hfz33_2
                    try clear hfz33_3
                    try clear hfz33_4
                    try clear hfz37_0
                    try clear hfz37_1
                    try clear hfz37_2
                    try clear hfz37_3
                    try clear hfz37_4
                    try clear hfz39_0
                    try clear hfz39_1
                    try clear hfz39_2
                    try clear hfz39_3
                    try clear hfz39_4
                    try clear hfz40_0
                    try clear hfz40_1
                    try clear hfz40_2
                    try clear hfz40_3
                    try clear hfz40_4
                    try clear hfz41_0
                    try clear hfz41_1
                    try clear hfz41_2
                    try clear hfz41_3
                    try clear hfz41_4
                    try clear hfz43_0
                    try clear hfz43_1
                    try clear hfz43_2
                    try clear hfz43_3
                    try clear hfz43_4
                    try clear hfz45_0
                    try clear hfz45_1
                    try clear hfz45_2
                    try clear hfz45_3
                    try clear hfz45_4
                    try clear hfz46_0
                    try clear hfz46_1
                    try clear hfz46_2
                    try clear hfz46_3
                    try clear hfz46_4
                    try clear hfz49_0
                    try clear hfz49_1
                    try clear hfz49_2
                    try clear hfz49_3
                    try clear hfz49_4
                    try clear hfz52_0
                    try clear hfz52_1
                    try clear hfz52_2
                    try clear hfz52_3
                    try clear hfz52_4
                    try clear hfz5_0
                    try clear hfz5_1
                    try clear hfz5_2
                    try clear hfz5_3
                    try clear hfz5_4
                    try clear hfz8_0
                    try clear hfz8_1
                    try clear hfz8_2
                    try clear hfz8_3
                    try clear hfz8_4
                    try clear p2
                    obtain ⟨kq, x5_50, x6_50, rfl, rfl, HA, HJ50, BK195, HB⟩ := hcut
                    cases kq with
                    | zero => exact absurd HA.out (by simp [hibernacleref10_Enc.j2])
                    | succ kj50 =>
                      have H := HA.out
                      clear HA
                      simp only [hibernacleref10_Enc.j2] at H
                      have HC54 := Aside0.mk H
                      clear H
                      go_upto_region 13 with (fail)
                      go_cut [97] (fun v97 wc => ∃ (kq : Nat) (x97_53 : Bool), v97 = .bool x97_53 ∧ Aside0 (hibernacleref10_Enc.j3 kq x97_53 a0_0 a0_1 a0_2 a0_3 a0_4 = some (r1, r2)) ∧ Aside0 (kq ≤ kj50) ∧ Aside0 (wc.heap[gb195]? = some (.cells #[.int .u8 a0_0, .int .u8 a0_1, .int .u8 a0_2, .int .u8 a0_3, .int .i32 a0_4] 23 (0, 0))) ∧ Aside0 (Below w.heap.size w wc))
                      case first =>
                        have H := HC54.out
                        clear HC54
                        by_cases c55 : a0_4 < x5_50
                        · rw [if_pos c55] at H
                          have c55b0 : decide (a0_4 < x5_50) = true := decide_eq_true c55
                          clear c55
                          (first | rw [c55b0] | (simp only [i64_w, i32_w]; rw [c55b0]) | skip)
                          have H' := Aside0.mk H
                          clear H
                          have hcz56_0 : wc.cell? ⟨gb195, 0, none⟩ = some (.int .u8 a0_0) := (blk_cell BK195.out 0).trans rfl
                          have hcz56_1 : wc.cell? ⟨gb195, 1, none⟩ = some (.int .u8 a0_1) := (blk_cell BK195.out 1).trans rfl
                          have hcz56_2 : wc.cell? ⟨gb195, 2, none⟩ = some (.int .u8 a0_2) := (blk_cell BK195.out 2).trans rfl
                          have hcz56_3 : wc.cell? ⟨gb195, 3, none⟩ = some (.int .u8 a0_3) := (blk_cell BK195.out 3).trans rfl
                          have hcz56_4 : wc.cell? ⟨gb195, 4, none⟩ = some (.int .i32 a0_4) := (blk_cell BK195.out 4).trans rfl
                          have hfz56_0 := blk_frozen BK195.out 0
                          have hfz56_1 := blk_frozen BK195.out 1
                          have hfz56_2 := blk_frozen BK195.out 2
                          have hfz56_3 := blk_frozen BK195.out 3
                          have hfz56_4 := blk_frozen BK195.out 4
                          go_wp2
                          go_meet
                          case rel => exact ⟨_, (true), (by first | rfl | (simp; done) | (simp [*]; done)), H', ⟨by have := HJ5.out; have := HJ14.out; have := HJ50.out; first | omega | exact Nat.le_refl _⟩, ⟨by (with_reducible repeat (first | refine blk_drewN ?_ _ | refine blk_drew ?_ | refine blk_alloc ?_ _)); exact BK195.out⟩, ⟨by repeat (first | (with_reducible first | exact HB.out | apply below_alloc | apply pw_below_drewN | apply below_drew1 | refine below_set ?_ GE195.out) | exact HB.out)⟩⟩
                        · rw [if_neg c55] at H
                          have c55b0 : decide (a0_4 < x5_50) = false := decide_eq_false c55
                          clear c55
                          (first | rw [c55b0] | (simp only [i64_w, i32_w]; rw [c55b0]) | skip)
                          have H' := Aside0.mk H
                          clear H
                          have hcz57_0 : wc.cell? ⟨gb195, 0, none⟩ = some (.int .u8 a0_0) := (blk_cell BK195.out 0).trans rfl
                          have hcz57_1 : wc.cell? ⟨gb195, 1, none⟩ = some (.int .u8 a0_1) := (blk_cell BK195.out 1).trans rfl
                          have hcz57_2 : wc.cell? ⟨gb195, 2, none⟩ = some (.int .u8 a0_2) := (blk_cell BK195.out 2).trans rfl
                          have hcz57_3 : wc.cell? ⟨gb195, 3, none⟩ = some (.int .u8 a0_3) := (blk_cell BK195.out 3).trans rfl
                          have hcz57_4 : wc.cell? ⟨gb195, 4, none⟩ = some (.int .i32 a0_4) := (blk_cell BK195.out 4).trans rfl
                          have hfz57_0 := blk_frozen BK195.out 0
                          have hfz57_1 := blk_frozen BK195.out 1
                          have hfz57_2 := blk_frozen BK195.out 2
                          have hfz57_3 := blk_frozen BK195.out 3
                          have hfz57_4 := blk_frozen BK195.out 4
                          go_wp2
                          go_meet
                          case rel => exact ⟨_, (decide (a0_4 > x6_50)), (by first | rfl | (simp; done) | (simp [*]; done)), H', ⟨by have := HJ5.out; have := HJ14.out; have := HJ50.out; first | omega | exact Nat.le_refl _⟩, ⟨by (with_reducible repeat (first | refine blk_drewN ?_ _ | refine blk_drew ?_ | refine blk_alloc ?_ _)); exact BK195.out⟩, ⟨by repeat (first | (with_reducible first | exact HB.out | apply below_alloc | apply pw_below_drewN | apply below_drew1 | refine below_set ?_ GE195.out) | exact HB.out)⟩⟩
                      case rest =>
                        clear HC54
                        try clear c1
                        try clear c2
                        try clear p2
                        try clear c3
                        try clear c3b0
                        try clear c3b1
                        try clear c4
                        try clear c5
                        try clear c9
                        try clear c9b0
                        try clear c11
                        try clear c11b0
                        try clear c12
                        try clear c14
                        try clear c16
                        try clear c16b0
                        try clear c16b1
                        try clear c17
                        try clear c17b0
                        try clear c17b1
                        try clear c18
                        try clear c18b0
                        try clear c18b1
                        try clear c19
                        try clear c19b0
                        try clear c19b1
                        try clear c20
                        try clear c20b0
                        try clear c20b1
                        try clear c22
                        try clear c22b0
                        try clear c22b1
                        try clear c23
                        try clear c26
                        try clear c26b0
                        try clear c26b1
                        try clear c27
                        try clear c27b0
                        try clear c27b1
                        try clear c29
                        try clear c29b0
                        try clear c29b1
                        try clear c34
                        try clear c34b0
                        try clear c34b1
                        try clear c35
                        try clear c35b0
                        try clear c35b1
                        try clear c36
                        try clear c36b0
                        try clear c36b1
                        try clear c38
                        try clear c38b0
                        try clear c38b1
                        try clear c42
                        try clear c42b0
                        try clear c42b1
                        try clear c44
                        try clear c44b0
                        try clear c44b1
                        try clear c47
                        try clear c48
                        try clear c48b0
                        try clear c48b1
                        try clear c53
                        try clear c55
                        try clear c55b0
                        try clear hcz10_0
                        try clear hcz10_1
                        try clear hcz10_2
                        try clear hcz10_3
                        try clear hcz10_4
                        try clear hcz12_0
                        try clear hcz12_1
                        try clear hcz12_2
                        try clear hcz12_3
                        try clear hcz12_4
                        try clear hcz13_0
                        try clear hcz13_1
                        try clear hcz13_2
                        try clear hcz13_3
                        try clear hcz13_4
                        try clear hcz21_0
                        try clear hcz21_1
                        try clear hcz21_2
                        try clear hcz21_3
                        try clear hcz21_4
                        try clear hcz23_0
                        try clear hcz23_1
                        try clear hcz23_2
                        try clear hcz23_3
                        try clear hcz23_4
                        try clear hcz24_0
                        try clear hcz24_1
                        try clear hcz24_2
                        try clear hcz24_3
                        try clear hcz24_4
                        try clear hcz25_0
                        try clear hcz25_1
                        try clear hcz25_2
                        try clear hcz25_3
                        try clear hcz25_4
                        try clear hcz28_0
                        try clear hcz28_1
                        try clear hcz28_2
                        try clear hcz28_3
                        try clear hcz28_4
                        try clear hcz30_0
                        try clear hcz30_1
                        try clear hcz30_2
                        try clear hcz30_3
                        try clear hcz30_4
                        try clear hcz31_0
                        try clear hcz31_1
                        try clear hcz31_2
                        try clear hcz31_3
                        try clear hcz31_4
                        try clear hcz32_0
                        try clear hcz32_1
                        try clear hcz32_2
                        try clear hcz32_3
                        try clear hcz32_4
                        try clear hcz33_0
                        try clear hcz33_1
                        try clear hcz33_2
                        try clear hcz33_3
                        try clear hcz33_4
                        try clear hcz37_0
                        try clear hcz37_1
                        try clear hcz37_2
                        try clear hcz37_3
                        try clear hcz37_4
                        try clear hcz39_0
                        try clear hcz39_1
                        try clear hcz39_2
                        try clear hcz39_3
                        try clear hcz39_4
                        try clear hcz40_0
                        try clear hcz40_1
                        try clear hcz40_2
                        try clear hcz40_3
                        try clear hcz40_4
                        try clear hcz41_0
                        try clear hcz41_1
                        try clear hcz41_2
                        try clear hcz41_3
                        try clear hcz41_4
                        try clear hcz43_0
                        try clear hcz43_1
                        try clear hcz43_2
                        try clear hcz43_3
                        try clear hcz43_4
                        try clear hcz45_0
                        try clear hcz45_1
                        try clear hcz45_2
                        try clear hcz45_3
                        try clear hcz45_4
                        try clear hcz46_0
                        try clear hcz46_1
                        try clear hcz46_2
                        try clear hcz46_3
                        try clear hcz46_4
                        try clear hcz49_0
                        try clear hcz49_1
                        try clear hcz49_2
                        try clear hcz49_3
                        try clear hcz49_4
                        try clear hcz52_0
                        try clear hcz52_1
                        try clear hcz52_2
                        try clear hcz52_3
                        try clear hcz52_4
                        try clear hcz56_0
                        try clear hcz56_1
                        try clear hcz56_2
                        try clear hcz56_3
                        try clear hcz56_4
                        try clear hcz57_0
                        try clear hcz57_1
                        try clear hcz57_2
                        try clear hcz57_3
                        try clear hcz57_4
                        try clear hcz5_0
                        try clear hcz5_1
                        try clear hcz5_2
                        try clear hcz5_3
                        try clear hcz5_4
                        try clear hcz8_0
                        try clear hcz8_1
                        try clear hcz8_2
                        try clear hcz8_3
                        try clear hcz8_4
                        try clear hfz10_0
                        try clear hfz10_1
                        try clear hfz10_2
                        try clear hfz10_3
                        try clear hfz10_4
                        try clear hfz12_0
                        try clear hfz12_1
                        try clear hfz12_2
                        try clear hfz12_3
                        try clear hfz12_4
                        try clear hfz13_0
                        try clear hfz13_1
                        try clear hfz13_2
                        try clear hfz13_3
                        try clear hfz13_4
                        try clear hfz21_0
                        try clear hfz21_1
                        try clear hfz21_2
                        try clear hfz21_3
                        try clear hfz21_4
                        try clear hfz23_0
                        try clear hfz23_1
                        try clear hfz23_2
                        try clear hfz23_3
                        try clear hfz23_4
                        try clear hfz24_0
                        try clear hfz24_1
                        try clear hfz24_2
                        try clear hfz24_3
                        try clear hfz24_4
                        try clear hfz25_0
                        try clear hfz25_1
                        try clear hfz25_2
                        try clear hfz25_3
                        try clear hfz25_4
                        try clear hfz28_0
                        try clear hfz28_1
                        try clear hfz28_2
                        try clear hfz28_3
                        try clear hfz28_4
                        try clear hfz30_0
                        try clear hfz30_1
                        try clear hfz30_2
                        try clear hfz30_3
                        try clear hfz30_4
                        try clear hfz31_0
                        try clear hfz31_1
                        try clear hfz31_2
                        try clear hfz31_3
                        try clear hfz31_4
                        try clear hfz32_0
                        try clear hfz32_1
                        try clear hfz32_2
                        try clear hfz32_3
                        try clear hfz32_4
                        try clear hfz33_0
                        try clear hfz33_1
                        try clear hfz33_2
                        try clear hfz33_3
                        try clear hfz33_4
                        try clear hfz37_0
                        try clear hfz37_1
                        try clear hfz37_2
                        try clear hfz37_3
                        try clear hfz37_4
                        try clear hfz39_0
                        try clear hfz39_1
                        try clear hfz39_2
                        try clear hfz39_3
                        try clear hfz39_4
                        try clear hfz40_0
                        try clear hfz40_1
                        try clear hfz40_2
                        try clear hfz40_3
                        try clear hfz40_4
                        try clear hfz41_0
                        try clear hfz41_1
                        try clear hfz41_2
                        try clear hfz41_3
                        try clear hfz41_4
                        try clear hfz43_0
                        try clear hfz43_1
                        try clear hfz43_2
                        try clear hfz43_3
                        try clear hfz43_4
                        try clear hfz45_0
                        try clear hfz45_1
                        try clear hfz45_2
                        try clear hfz45_3
                        try clear hfz45_4
                        try clear hfz46_0
                        try clear hfz46_1
                        try clear hfz46_2
                        try clear hfz46_3
                        try clear hfz46_4
                        try clear hfz49_0
                        try clear hfz49_1
                        try clear hfz49_2
                        try clear hfz49_3
                        try clear hfz49_4
                        try clear hfz52_0
                        try clear hfz52_1
                        try clear hfz52_2
                        try clear hfz52_3
                        try clear hfz52_4
                        try clear hfz56_0
                        try clear hfz56_1
                        try clear hfz56_2
                        try clear hfz56_3
                        try clear hfz56_4
                        try clear hfz57_0
                        try clear hfz57_1
                        try clear hfz57_2
                        try clear hfz57_3
                        try clear hfz57_4
                        try clear hfz5_0
                        try clear hfz5_1
                        try clear hfz5_2
                        try clear hfz5_3
                        try clear hfz5_4
                        try clear hfz8_0
                        try clear hfz8_1
                        try clear hfz8_2
                        try clear hfz8_3
                        try clear hfz8_4
                        try clear p2
                        obtain ⟨kq, x97_53, rfl, HA, HJ53, BK195, HB⟩ := hcut
                        cases kq with
                        | zero => exact absurd HA.out (by simp [hibernacleref10_Enc.j3])
                        | succ kj53 =>
                          have H := HA.out
                          clear HA
                          simp only [hibernacleref10_Enc.j3] at H
                          by_cases c58 : x97_53 = true
                          · subst c58
                            have H1 : (some (0, 2)) = some (r1, r2) := by rw [if_pos rfl] at H; exact H
                            clear H
                            have H := H1
                            clear H1
                            simp only [Option.some.injEq, Prod.mk.injEq] at H
                            obtain ⟨rfl, rfl⟩ := H
                            go_wp2
                            go_ret2
                            exact ⟨by first | rfl | (simp [errW_none, errW_some] <;> rfl) | (simp [errW_none, errW_some, IntKind.wrap_u32] <;> omega) | (simp [*, errW_none, errW_some] <;> rfl), by repeat (first | (with_reducible first | exact HB.out | apply below_alloc | apply pw_below_drewN | apply below_drew1 | refine below_set ?_ GE195.out) | exact HB.out)⟩
                          · replace c58 := Bool.eq_false_iff.mpr c58
                            subst c58
                            have H1 : (if a0_4 < 0 then (some (((((((((((((IntKind.u32.wrap (a0_0)) * 16) % 4294967296) + (IntKind.u32.wrap (a0_1))) % 4294967296) * 16) % 4294967296) + (IntKind.u32.wrap (a0_2))) % 4294967296) * 262144) % 4294967296) + (IntKind.u32.wrap (wrap32 (a0_4 + 65536)))) % 4294967296, 0)) else (some (((((((((((((IntKind.u32.wrap (a0_0)) * 16) % 4294967296) + (IntKind.u32.wrap (a0_1))) % 4294967296) * 16) % 4294967296) + (IntKind.u32.wrap (a0_2))) % 4294967296) * 262144) % 4294967296) + (IntKind.u32.wrap (a0_4))) % 4294967296, 0))) = some (r1, r2) := by rw [if_neg (show ¬ (false = true) by decide)] at H; exact H
                            clear H
                            have H := H1
                            clear H1
                            by_cases c59 : a0_4 < 0
                            · rw [if_pos c59] at H
                              have c59b0 : decide (a0_4 < 0) = true := decide_eq_true c59
                              clear c59
                              simp only [Option.some.injEq, Prod.mk.injEq] at H
                              obtain ⟨rfl, rfl⟩ := H
                              have hcz60_0 : wc.cell? ⟨gb195, 0, none⟩ = some (.int .u8 a0_0) := (blk_cell BK195.out 0).trans rfl
                              have hcz60_1 : wc.cell? ⟨gb195, 1, none⟩ = some (.int .u8 a0_1) := (blk_cell BK195.out 1).trans rfl
                              have hcz60_2 : wc.cell? ⟨gb195, 2, none⟩ = some (.int .u8 a0_2) := (blk_cell BK195.out 2).trans rfl
                              have hcz60_3 : wc.cell? ⟨gb195, 3, none⟩ = some (.int .u8 a0_3) := (blk_cell BK195.out 3).trans rfl
                              have hcz60_4 : wc.cell? ⟨gb195, 4, none⟩ = some (.int .i32 a0_4) := (blk_cell BK195.out 4).trans rfl
                              have hfz60_0 := blk_frozen BK195.out 0
                              have hfz60_1 := blk_frozen BK195.out 1
                              have hfz60_2 := blk_frozen BK195.out 2
                              have hfz60_3 := blk_frozen BK195.out 3
                              have hfz60_4 := blk_frozen BK195.out 4
                              go_wp2
                              go_ret2
                              exact ⟨by first | rfl | (simp [errW_none, errW_some] <;> rfl) | (simp [errW_none, errW_some, IntKind.wrap_u32] <;> omega) | (simp [*, errW_none, errW_some] <;> rfl), by repeat (first | (with_reducible first | exact HB.out | apply below_alloc | apply pw_below_drewN | apply below_drew1 | refine below_set ?_ GE195.out) | exact HB.out)⟩
                            · rw [if_neg c59] at H
                              have c59b0 : decide (a0_4 < 0) = false := decide_eq_false c59
                              clear c59
                              simp only [Option.some.injEq, Prod.mk.injEq] at H
                              obtain ⟨rfl, rfl⟩ := H
                              have hcz61_0 : wc.cell? ⟨gb195, 0, none⟩ = some (.int .u8 a0_0) := (blk_cell BK195.out 0).trans rfl
                              have hcz61_1 : wc.cell? ⟨gb195, 1, none⟩ = some (.int .u8 a0_1) := (blk_cell BK195.out 1).trans rfl
                              have hcz61_2 : wc.cell? ⟨gb195, 2, none⟩ = some (.int .u8 a0_2) := (blk_cell BK195.out 2).trans rfl
                              have hcz61_3 : wc.cell? ⟨gb195, 3, none⟩ = some (.int .u8 a0_3) := (blk_cell BK195.out 3).trans rfl
                              have hcz61_4 : wc.cell? ⟨gb195, 4, none⟩ = some (.int .i32 a0_4) := (blk_cell BK195.out 4).trans rfl
                              have hfz61_0 := blk_frozen BK195.out 0
                              have hfz61_1 := blk_frozen BK195.out 1
                              have hfz61_2 := blk_frozen BK195.out 2
                              have hfz61_3 := blk_frozen BK195.out 3
                              have hfz61_4 := blk_frozen BK195.out 4
                              go_wp2
                              go_ret2
                              exact ⟨by first | rfl | (simp [errW_none, errW_some] <;> rfl) | (simp [errW_none, errW_some, IntKind.wrap_u32] <;> omega) | (simp [*, errW_none, errW_some] <;> rfl), by repeat (first | (with_reducible first | exact HB.out | apply below_alloc | apply pw_below_drewN | apply below_drew1 | refine below_set ?_ GE195.out) | exact HB.out)⟩
end Go.Proofs.YthdfkbkenklcaaaDoor.P
end
section
set_option linter.unusedSimpArgs false
set_option linter.unusedVariables false
namespace Go.Proofs.YthdfkbkenklcaaaDoor.Q
open Go.RowKit Go.Proofs.YthdfkbkenklcaaaDoor.P Go.Proofs.YthdfkbkenklcaaaDoorW.PrintWords Go.Proofs.YthdfkbkenklcaaaDoorW.PrintLast Go.Proofs.YthdfkbkenklcaaaDoorW.PrintMore
def numOf (o w : Int) : Int := if frm o = 114 then 0 else if pl o then w % 65536 else (w + 32768) % 65536 - 32768
def cOf (o w : Int) : Int := if frm o = 114 then (w / 16384) % 16 else 0
def parts (w : Int) : Int × Int × Int × Int × Int :=
  (w / 67108864, (w / 4194304) % 16, (w / 262144) % 16, cOf (w / 67108864) w, numOf (w / 67108864) w)
def decOf (w : Int) : Int × Int × Int × Int × Int × Bool :=
  if encOf (parts w).1 (parts w).2.1 (parts w).2.2.1 (parts w).2.2.2.1 (parts w).2.2.2.2 = (w, 0) then ((parts w).1, (parts w).2.1, (parts w).2.2.1, (parts w).2.2.2.1, (parts w).2.2.2.2, true) else (0, 0, 0, 0, 0, false)
theorem dec_fin {g : Nat → Option (Int × Int)} {o a b c n w : Int} (h : Ev g (encOf o a b c n)) :
    Ev (fun k => (g k).bind fun t => if t.2 = 0 then (if t.1 = w then some (o, a, b, c, n, true) else some (0, 0, 0, 0, 0, false)) else some (0, 0, 0, 0, 0, false))
      (if encOf o a b c n = (w, 0) then (o, a, b, c, n, true) else (0, 0, 0, 0, 0, false)) := by
  refine Ev.bind h ?_
  generalize encOf o a b c n = e
  obtain ⟨x, y⟩ := e
  by_cases h1 : y = 0
  · subst h1
    by_cases h2 : x = w
    · subst h2
      exact Ev.congr (fun k => by simp) (Ev.now _)
    · exact Ev.congr (fun k => by simp [h2]) (Ev.now _)
  · exact Ev.congr (fun k => by simp [h1]) (Ev.now _)
theorem dec_all (w : Int) (w0 : 0 ≤ w) (w1 : w < 4294967296) : Ev (fun k => isa_Dec.f k w) (decOf w) := by
  have y1 : (w / 67108864) % 256 = w / 67108864 := by omega
  have y2 : (Go.bits .and .u32 (w / 4194304) 15) % 256 = (w / 4194304) % 16 := by rw [u32_and15 (by omega) (by omega)]; omega
  have y3 : (Go.bits .and .u32 (w / 262144) 15) % 256 = (w / 262144) % 16 := by rw [u32_and15 (by omega) (by omega)]; omega
  have y4 : (Go.bits .and .u32 (w / 16384) 15) % 256 = (w / 16384) % 16 := by rw [u32_and15 (by omega) (by omega)]; omega
  have y5 : wrap32 (IntKind.u16.wrap w) = w % 65536 := by rw [u16_mod]; unfold wrap32; omega
  have y6 : wrap32 (IntKind.i16.wrap w) = (w + 32768) % 65536 - 32768 := by rw [i16_mod]; unfold wrap32; omega
  unfold isa_Dec.f decOf parts
  simp only [y1, y2, y3, y4, y5, y6, form_eq (w / 67108864) (by omega) (by omega), Option.bind_some, has_eq]
  have he := fun c n (c0 : 0 ≤ c) => enc_ev (w / 67108864) ((w / 4194304) % 16) ((w / 262144) % 16) c n (by omega) (by omega) (by omega) (by omega) c0
  by_cases hr : frm (w / 67108864) = 114
  · have e1 : cOf (w / 67108864) w = (w / 16384) % 16 := by unfold cOf; rw [if_pos hr]
    have e2 : numOf (w / 67108864) w = 0 := by unfold numOf; rw [if_pos hr]
    rw [e1, e2]
    exact Ev.congr (fun k => if_pos (by simp [hr])) (dec_fin (he _ _ (by omega)))
  · have e1 : cOf (w / 67108864) w = 0 := by unfold cOf; rw [if_neg hr]
    have e2 : numOf (w / 67108864) w = if pl (w / 67108864) = true then w % 65536 else (w + 32768) % 65536 - 32768 := by unfold numOf; rw [if_neg hr]
    rw [e1, e2]
    refine Ev.congr (fun k => if_neg (by simp [hr])) (Ev.congr (fun k => if_pos (by simp [hr])) ?_)
    unfold strings_IndexByte.f pl
    simp only [Option.bind_some]
    by_cases hp : Lib.indexByte (⟨#[15, 16, 17, 19, 31]⟩ : ByteArray).data.toList (w / 67108864).toNat.toUInt8 ≥ 0
    · rw [if_pos (decide_eq_true hp)]
      exact Ev.congr (fun k => if_pos hp) (dec_fin (he _ _ (by omega)))
    · rw [decide_eq_false hp, if_neg Bool.false_ne_true]
      exact Ev.congr (fun k => if_neg hp) (dec_fin (he _ _ (by omega)))
def rfm (o : Int) : Int := if frm o = 114 then 1 else if frm o = 105 then 2 else if frm o = 108 then 3 else if frm o = 109 then 4 else if frm o = 110 then 5 else 0
theorem ref_form_all : ∀ m : Fin 256, hibernacleref10_Form.f 6 (m.val : Int) = some (rfm (m.val : Int)) := by decide +kernel
theorem ref_plain_all : ∀ m : Fin 256, hibernacleref10_plain.f (m.val : Int) = some (pl (m.val : Int)) := by decide +kernel
theorem ref_form (o : Int) (o0 : 0 ≤ o) (o1 : o < 256) : Ev (fun k => hibernacleref10_Form.f k o) (rfm o) := by
  have h := ref_form_all ⟨o.toNat, by omega⟩
  have e : ((o.toNat : Nat) : Int) = o := by omega
  simp only [e] at h
  exact Ev.of (fun k => hibernacleref10_Form.mono o k) h
theorem ref_plain (o : Int) (o0 : 0 ≤ o) (o1 : o < 256) : hibernacleref10_plain.f o = some (pl o) := by
  have h := ref_plain_all ⟨o.toNat, by omega⟩
  have e : ((o.toNat : Nat) : Int) = o := by omega
  simp only [e] at h
  exact h
def bad2 (t a b c n : Int) : Bool := (t == 5 && a != 0) || ((t == 3 || t == 5) && b != 0) || (t != 1 && c != 0) || (t == 1 && n != 0)
theorem ref_j0 (k : Nat) (t o a b c n : Int) : hibernacleref10_Enc.j0 (k + 1) t false o a b c n = hibernacleref10_Enc.j1 k t (bad2 t a b c n) o a b c n := by
  simp only [hibernacleref10_Enc.j0]
  unfold bad2
  have ne : ∀ x : Int, (x != 0) = !(decide (x = 0)) := fun x => by by_cases h : x = 0 <;> simp [h]
  have eq : ∀ x y : Int, (x == y) = decide (x = y) := fun x y => by by_cases h : x = y <;> simp [h]
  have ne1 : (t != 1) = !(decide (t = 1)) := by by_cases h : t = 1 <;> simp [h]
  rw [ne a, ne b, ne c, ne n, eq t 5, eq t 3, eq t 1, ne1]
  by_cases h5 : t = 5
  · subst h5
    by_cases ha : a = 0 <;> by_cases hb : b = 0 <;> by_cases hc : c = 0 <;> simp [ha, hb, hc]
  by_cases h3 : t = 3
  · subst h3
    by_cases hb : b = 0 <;> by_cases hc : c = 0 <;> simp [hb, hc]
  by_cases h1 : t = 1
  · subst h1
    by_cases hn : n = 0 <;> simp [hn]
  by_cases hc : c = 0 <;> simp [h5, h3, h1, hc]
theorem bad_split (o a b c n : Int) (h : frm o = 114 ∨ frm o = 105 ∨ frm o = 108 ∨ frm o = 109 ∨ frm o = 110) :
    bad (frm o) a b c n = ((decide (a > 15) || decide (b > 15) || decide (c > 15)) || bad2 (rfm o) a b c n) := by
  unfold bad bad2 rfm
  rcases h with h | h | h | h | h <;> rw [h] <;> simp [Bool.or_assoc]
theorem ref_enc_f (k : Nat) (o a b c n : Int) (t : Int) (ht : t ≠ 0) (hf : hibernacleref10_Form.f k o = some t) :
    hibernacleref10_Enc.f k o a b c n = hibernacleref10_Enc.j0 k t (decide (a > 15) || decide (b > 15) || decide (c > 15)) o a b c n := by
  unfold hibernacleref10_Enc.f
  rw [hf, Option.bind_some, if_neg ht]
  by_cases ha : a > 15
  · rw [if_pos ha]; simp [ha]
  · rw [if_neg ha]
    by_cases hb : b > 15
    · rw [if_pos hb]; simp [ha, hb]
    · rw [if_neg hb]; simp [ha, hb]
theorem ref_word {o a b x : Int} (o0 : 0 ≤ o) (o1 : o ≤ 31) (a0 : 0 ≤ a) (a1 : a ≤ 15) (b0 : 0 ≤ b) (b1 : b ≤ 15) (x0 : 0 ≤ x) (x1 : x < 262144) :
    (((((((((((IntKind.u32.wrap o) * 16) % 4294967296) + (IntKind.u32.wrap a)) % 4294967296) * 16) % 4294967296) + (IntKind.u32.wrap b)) % 4294967296) * 262144) % 4294967296 + x) % 4294967296 = o * 67108864 + a * 4194304 + b * 262144 + x := by
  rw [u32_nat o0 (by omega), u32_nat a0 (by omega), u32_nat b0 (by omega)]
  omega
theorem ref_enc_ev (o a b c n : Int) (o0 : 0 ≤ o) (o1 : o < 256) (a0 : 0 ≤ a) (b0 : 0 ≤ b) (c0 : 0 ≤ c) : Ev (fun k => hibernacleref10_Enc.f k o a b c n) (encOf o a b c n) := by
  have hF := ref_form o o0 o1
  obtain ⟨K, hK⟩ := hF
  unfold encOf
  by_cases hf : frm o = 0
  · rw [if_pos hf]
    refine ⟨K, fun k hk => ?_⟩
    have e : rfm o = 0 := by unfold rfm; rw [hf]; simp
    simp only [hibernacleref10_Enc.f, hK k hk, Option.bind_some, e, if_pos]
  · rw [if_neg hf]
    have h5 := frm_lt hf
    obtain ⟨g0, g1⟩ := frm_ne hf
    have ht : rfm o ≠ 0 := by unfold rfm; rcases h5 with h | h | h | h | h <;> rw [h] <;> simp
    suffices H : Ev (fun k => hibernacleref10_Enc.j0 k (rfm o) (decide (a > 15) || decide (b > 15) || decide (c > 15)) o a b c n) (if bad (frm o) a b c n = true then (0, 1) else if (frm o != 114 && !fit o n) = true then (0, 2) else (wrd o a b c n, 0)) by
      obtain ⟨K', hK'⟩ := H
      refine ⟨max K K', fun k hk => ?_⟩
      rw [← hK' k (by omega)]
      exact ref_enc_f k o a b c n _ ht (hK k (by omega))
    rw [bad_split o a b c n h5]
    by_cases hx : (decide (a > 15) || decide (b > 15) || decide (c > 15)) = true
    · rw [hx]
      refine Ev.step (f := fun _ => some (0, 1)) (fun k => by simp only [hibernacleref10_Enc.j0]; rw [if_pos trivial]) ?_
      rw [Bool.true_or, if_pos rfl]
      exact Ev.now _
    · have hx' : (decide (a > 15) || decide (b > 15) || decide (c > 15)) = false := by simpa using hx
      have hx2 := hx'
      simp only [Bool.or_eq_false_iff, decide_eq_false_iff_not] at hx2
      obtain ⟨⟨a1, b1⟩, c1⟩ := hx2
      rw [hx']
      refine Ev.step (fun k => ref_j0 k (rfm o) o a b c n) ?_
      rw [Bool.false_or]
      by_cases hb : bad2 (rfm o) a b c n = true
      · rw [hb, if_pos rfl]
        exact Ev.step (f := fun _ => some (0, 1)) (fun k => by simp only [hibernacleref10_Enc.j1]; rw [if_pos trivial]) (Ev.now _)
      · have hb' : bad2 (rfm o) a b c n = false := by simpa using hb
        rw [hb', if_neg (by simp)]
        by_cases hr : frm o = 114
        · have e1 : rfm o = 1 := by unfold rfm; rw [if_pos hr]
          rw [e1, if_neg (by simp [hr])]
          refine Ev.step (f := fun _ => some (wrd o a b c n, 0)) (fun k => ?_) (Ev.now _)
          simp only [hibernacleref10_Enc.j1]
          rw [if_neg (by simp), if_pos trivial]
          rw [u32_nat (n := c) c0 (by omega), show (c * 16384) % 4294967296 = c * 16384 by omega, ref_word o0 g1 a0 (by omega) b0 (by omega) (by omega) (by omega)]
          unfold wrd
          rw [if_pos hr]
        · have e1 : rfm o ≠ 1 := by unfold rfm; rw [if_neg hr]; rcases h5 with h | h | h | h | h <;> rw [h] <;> first | exact absurd h hr | simp
          have e2 : (frm o != 114) = true := by simp [hr]
          rw [e2, Bool.true_and]
          refine Ev.step (f := fun k => if pl o = true then hibernacleref10_Enc.j2 k 0 65535 o a b c n else hibernacleref10_Enc.j2 k (-32768) 32767 o a b c n) (fun k => by simp only [hibernacleref10_Enc.j1, ref_plain o o0 o1, Option.bind_some]; rw [if_neg (by simp), if_neg e1]) ?_
          have key : ∀ lo hi : Int, lo ≤ 0 → -65536 ≤ lo → hi ≤ 65535 → fit o n = decide (lo ≤ n ∧ n ≤ hi) → Ev (fun k => hibernacleref10_Enc.j2 k lo hi o a b c n) (if (!fit o n) = true then (0, 2) else (wrd o a b c n, 0)) := by
            intro lo hi h0 h1 h2 hfit
            refine Ev.step (f := fun k => hibernacleref10_Enc.j3 k (!fit o n) o a b c n) (fun k => ?_) ?_
            · simp only [hibernacleref10_Enc.j2]
              rw [hfit]
              by_cases hl : n < lo
              · rw [if_pos hl, decide_eq_false (by omega)]; rfl
              · rw [if_neg hl]
                by_cases hh : n > hi
                · rw [decide_eq_true hh, decide_eq_false (by omega)]; rfl
                · rw [decide_eq_false hh, decide_eq_true (by omega)]; rfl
            · by_cases ft : fit o n = true
              · rw [ft]
                have ft2 := ft
                rw [hfit, decide_eq_true_eq] at ft2
                refine Ev.step (f := fun _ => some (wrd o a b c n, 0)) (fun k => ?_) (by rw [if_neg (by simp)]; exact Ev.now _)
                simp only [hibernacleref10_Enc.j3]
                rw [if_neg (by simp)]
                have W := ref_word (x := n % 65536) o0 g1 a0 (by omega) b0 (by omega) (by omega) (by omega)
                have e3 : wrd o a b c n = o * 67108864 + a * 4194304 + b * 262144 + n % 65536 := by unfold wrd; rw [if_neg hr]
                rw [e3, ← W]
                by_cases hn : n < 0
                · rw [if_pos hn, show wrap32 (n + 65536) = n % 65536 by unfold wrap32; omega, u32_nat (n := n % 65536) (by omega) (by omega)]
                · rw [if_neg hn, u32_nat (n := n) (by omega) (by omega), show n % 65536 = n by omega]
              · have ft' : fit o n = false := by simpa using ft
                rw [ft']
                refine Ev.step (f := fun _ => some (0, 2)) (fun k => ?_) (by rw [if_pos (by simp)]; exact Ev.now _)
                simp only [hibernacleref10_Enc.j3]
                rw [if_pos (by simp)]
          by_cases hp : pl o = true
          · refine Ev.congr (fun k => if_pos hp) (key 0 65535 (by omega) (by omega) (by omega) ?_)
            unfold fit; rw [if_pos hp]
          · refine Ev.congr (fun k => if_neg hp) (key (-32768) 32767 (by omega) (by omega) (by omega) ?_)
            unfold fit; rw [if_neg hp]
end Go.Proofs.YthdfkbkenklcaaaDoor.Q
end
section
namespace Go.Proofs.YthdfkbkenklcaaaDoor.P
open Go.RowKit Go.Proofs.YthdfkbkenklcaaaDoorW.PrintWords Go.Proofs.YthdfkbkenklcaaaDoorW.PrintLast Go.Proofs.YthdfkbkenklcaaaDoorW.PrintMore
attribute [local go_sem] isSome_setCell_eq max2_int min2_int max_two min_two max_three min_three max_four min_four
set_option linter.unusedVariables false
set_option linter.unusedSimpArgs false
theorem eqA23 (d : Nat) (w : World) (x0 y0 : Int) (x1 y1 : Int) (x2 y2 : Int) (x3 y3 : Int) (x4 y4 : Int) :
    (Op.equalIn (d + 2) 23 (.agg #[.int .u8 x0, .int .u8 x1, .int .u8 x2, .int .u8 x3, .int .i32 x4]) (.agg #[.int .u8 y0, .int .u8 y1, .int .u8 y2, .int .u8 y3, .int .i32 y4])).run Tryd.prog w = .ok (x0 == y0 && (x1 == y1 && (x2 == y2 && (x3 == y3 && (x4 == y4))))) w := by
  refine eqA_of Tryd.underlying23 (by kernel_rfl) ?_
  refine eqf_cons (by rfl) (by go_simp; rfl) (by go_simp; rfl) (by go_simp) ?_
  refine eqf_cons (by rfl) (by go_simp; rfl) (by go_simp; rfl) (by go_simp) ?_
  refine eqf_cons (by rfl) (by go_simp; rfl) (by go_simp; rfl) (by go_simp) ?_
  refine eqf_cons (by rfl) (by go_simp; rfl) (by go_simp; rfl) (by go_simp) ?_
  exact eqf_last (by rfl) (by go_simp; rfl) (by go_simp; rfl) (by go_simp)
end Go.Proofs.YthdfkbkenklcaaaDoor.P
end
