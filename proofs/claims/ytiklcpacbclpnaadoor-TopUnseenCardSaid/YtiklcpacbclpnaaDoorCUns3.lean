-- Printed for this claim and put together by wip/tools/prune.py.
import Derived.Test.YtiklcpacbclpnaaDoorCUns1
import Derived.Test.YtiklcpacbclpnaaDoorCUns2
set_option linter.unusedVariables false
set_option linter.unusedSimpArgs false
section
namespace Go.Proofs.YtiklcpacbclpnaaDoor.P
open Go.RowKit Go.Proofs.YtiklcpacbclpnaaDoorW.PrintWords Go.Proofs.YtiklcpacbclpnaaDoorW.PrintLast Go.Proofs.YtiklcpacbclpnaaDoorW.PrintMore
attribute [local go_sem] isSome_setCell_eq max2_int min2_int max_two min_two max_three min_three max_four min_four
set_option linter.unusedVariables false
set_option linter.unusedSimpArgs false
mutual
def isa_Enc.j0 : Nat → Bool → Bool → Int → Int → Int → Int → Int → Option (Int × Int)
  | 0, _, _, _, _, _, _, _ => none
  | k + 1, x8, x70, x105000, x105001, x105002, x105003, x105004 => if x70 = true then (some (0, 1)) else (if x8 = true then ((isa_fits.f x105000 x105004).bind fun t110 => (isa_Enc.j1 k x8 (!t110) x105000 x105001 x105002 x105003 x105004)) else (isa_Enc.j1 k x8 false x105000 x105001 x105002 x105003 x105004))
def isa_Enc.j1 : Nat → Bool → Bool → Int → Int → Int → Int → Int → Option (Int × Int)
  | 0, _, _, _, _, _, _, _ => none
  | k + 1, x8, x79, x105000, x105001, x105002, x105003, x105004 => if x79 = true then (some (0, 2)) else (if x8 = true then (some (Go.bits .or .u32 (Go.bits .or .u32 (Go.bits .or .u32 (Go.bits .or .u32 (((IntKind.u32.wrap (x105000)) * 67108864) % 4294967296) (((IntKind.u32.wrap (x105001)) * 4194304) % 4294967296)) (((IntKind.u32.wrap (x105002)) * 262144) % 4294967296)) (((IntKind.u32.wrap (x105003)) * 16384) % 4294967296)) (IntKind.u32.wrap (IntKind.u16.wrap (x105004))), 0)) else (some (Go.bits .or .u32 (Go.bits .or .u32 (Go.bits .or .u32 (((IntKind.u32.wrap (x105000)) * 67108864) % 4294967296) (((IntKind.u32.wrap (x105001)) * 4194304) % 4294967296)) (((IntKind.u32.wrap (x105002)) * 262144) % 4294967296)) (((IntKind.u32.wrap (x105003)) * 16384) % 4294967296), 0)))
end
def isa_Enc.f (k : Nat) (a0_0 : Int) (a0_1 : Int) (a0_2 : Int) (a0_3 : Int) (a0_4 : Int) : Option (Int × Int) := (isa_form.f a0_0).bind fun t105 => (if t105 = 0 then (some (0, 16)) else ((isa_has.f t105).bind fun bt106 => (if a0_1 > 15 then (isa_Enc.j0 k bt106.2.2.2 true a0_0 a0_1 a0_2 a0_3 a0_4) else (if a0_2 > 15 then (isa_Enc.j0 k bt106.2.2.2 true a0_0 a0_1 a0_2 a0_3 a0_4) else (if a0_3 > 15 then (isa_Enc.j0 k bt106.2.2.2 true a0_0 a0_1 a0_2 a0_3 a0_4) else (if bt106.1 = true then (if bt106.2.1 = true then (if bt106.2.2.1 = true then (if bt106.2.2.2 = true then (isa_Enc.j0 k bt106.2.2.2 false a0_0 a0_1 a0_2 a0_3 a0_4) else (isa_Enc.j0 k bt106.2.2.2 (a0_4 != 0) a0_0 a0_1 a0_2 a0_3 a0_4)) else (if a0_3 = 0 then (if bt106.2.2.2 = true then (isa_Enc.j0 k bt106.2.2.2 false a0_0 a0_1 a0_2 a0_3 a0_4) else (isa_Enc.j0 k bt106.2.2.2 (a0_4 != 0) a0_0 a0_1 a0_2 a0_3 a0_4)) else (isa_Enc.j0 k bt106.2.2.2 true a0_0 a0_1 a0_2 a0_3 a0_4))) else (if a0_2 = 0 then (if bt106.2.2.1 = true then (if bt106.2.2.2 = true then (isa_Enc.j0 k bt106.2.2.2 false a0_0 a0_1 a0_2 a0_3 a0_4) else (isa_Enc.j0 k bt106.2.2.2 (a0_4 != 0) a0_0 a0_1 a0_2 a0_3 a0_4)) else (if a0_3 = 0 then (if bt106.2.2.2 = true then (isa_Enc.j0 k bt106.2.2.2 false a0_0 a0_1 a0_2 a0_3 a0_4) else (isa_Enc.j0 k bt106.2.2.2 (a0_4 != 0) a0_0 a0_1 a0_2 a0_3 a0_4)) else (isa_Enc.j0 k bt106.2.2.2 true a0_0 a0_1 a0_2 a0_3 a0_4))) else (isa_Enc.j0 k bt106.2.2.2 true a0_0 a0_1 a0_2 a0_3 a0_4))) else (if a0_1 = 0 then (if bt106.2.1 = true then (if bt106.2.2.1 = true then (if bt106.2.2.2 = true then (isa_Enc.j0 k bt106.2.2.2 false a0_0 a0_1 a0_2 a0_3 a0_4) else (isa_Enc.j0 k bt106.2.2.2 (a0_4 != 0) a0_0 a0_1 a0_2 a0_3 a0_4)) else (if a0_3 = 0 then (if bt106.2.2.2 = true then (isa_Enc.j0 k bt106.2.2.2 false a0_0 a0_1 a0_2 a0_3 a0_4) else (isa_Enc.j0 k bt106.2.2.2 (a0_4 != 0) a0_0 a0_1 a0_2 a0_3 a0_4)) else (isa_Enc.j0 k bt106.2.2.2 true a0_0 a0_1 a0_2 a0_3 a0_4))) else (if a0_2 = 0 then (if bt106.2.2.1 = true then (if bt106.2.2.2 = true then (isa_Enc.j0 k bt106.2.2.2 false a0_0 a0_1 a0_2 a0_3 a0_4) else (isa_Enc.j0 k bt106.2.2.2 (a0_4 != 0) a0_0 a0_1 a0_2 a0_3 a0_4)) else (if a0_3 = 0 then (if bt106.2.2.2 = true then (isa_Enc.j0 k bt106.2.2.2 false a0_0 a0_1 a0_2 a0_3 a0_4) else (isa_Enc.j0 k bt106.2.2.2 (a0_4 != 0) a0_0 a0_1 a0_2 a0_3 a0_4)) else (isa_Enc.j0 k bt106.2.2.2 true a0_0 a0_1 a0_2 a0_3 a0_4))) else (isa_Enc.j0 k bt106.2.2.2 true a0_0 a0_1 a0_2 a0_3 a0_4))) else (isa_Enc.j0 k bt106.2.2.2 true a0_0 a0_1 a0_2 a0_3 a0_4))))))))
theorem isa_Enc.mono_l : ∀ k, (∀ y0 y1 y2 y3 y4 y5 y6, LeO (isa_Enc.j0 k y0 y1 y2 y3 y4 y5 y6) (isa_Enc.j0 (k + 1) y0 y1 y2 y3 y4 y5 y6)) ∧ (∀ y0 y1 y2 y3 y4 y5 y6, LeO (isa_Enc.j1 k y0 y1 y2 y3 y4 y5 y6) (isa_Enc.j1 (k + 1) y0 y1 y2 y3 y4 y5 y6))
  | 0 => ⟨fun _ _ _ _ _ _ _ r h => by simp [isa_Enc.j0] at h, fun _ _ _ _ _ _ _ r h => by simp [isa_Enc.j1] at h⟩
  | k + 1 => by
    obtain ⟨ih0, ih1⟩ := isa_Enc.mono_l k
    refine ⟨?_, ?_⟩
    · intro y0 y1 y2 y3 y4 y5 y6
      unfold isa_Enc.j0
      repeat' first
      | (with_reducible exact ih0 _ _ _ _ _ _ _)
      | (with_reducible exact ih1 _ _ _ _ _ _ _)
      | (with_reducible exact LeO.refl _)
      | (with_reducible exact LeO.none _)
      | (with_reducible refine LeO.ite ?_ ?_)
      | (with_reducible refine LeO.bind ?_ (fun _ => ?_))
      | exact ih0 _ _ _ _ _ _ _
      | exact ih1 _ _ _ _ _ _ _
      | exact LeO.none _
      | refine LeO.ite ?_ ?_
      | refine LeO.bind ?_ (fun _ => ?_)
    · intro y0 y1 y2 y3 y4 y5 y6
      unfold isa_Enc.j1
      repeat' first
      | (with_reducible exact ih0 _ _ _ _ _ _ _)
      | (with_reducible exact ih1 _ _ _ _ _ _ _)
      | (with_reducible exact LeO.refl _)
      | (with_reducible exact LeO.none _)
      | (with_reducible refine LeO.ite ?_ ?_)
      | (with_reducible refine LeO.bind ?_ (fun _ => ?_))
      | exact ih0 _ _ _ _ _ _ _
      | exact ih1 _ _ _ _ _ _ _
      | exact LeO.none _
      | refine LeO.ite ?_ ?_
      | refine LeO.bind ?_ (fun _ => ?_)
theorem isa_Enc.mono : ∀ a0 a1 a2 a3 a4 k, LeO (isa_Enc.f k a0 a1 a2 a3 a4) (isa_Enc.f (k + 1) a0 a1 a2 a3 a4) := by
  intro a0 a1 a2 a3 a4 k
  obtain ⟨ih0, ih1⟩ := isa_Enc.mono_l k
  unfold isa_Enc.f
  repeat' first
      | (with_reducible exact ih0 _ _ _ _ _ _ _)
      | (with_reducible exact ih1 _ _ _ _ _ _ _)
      | (with_reducible exact LeO.refl _)
      | (with_reducible exact LeO.none _)
      | (with_reducible refine LeO.ite ?_ ?_)
      | (with_reducible refine LeO.bind ?_ (fun _ => ?_))
      | exact ih0 _ _ _ _ _ _ _
      | exact ih1 _ _ _ _ _ _ _
      | exact LeO.none _
      | refine LeO.ite ?_ ?_
      | refine LeO.bind ?_ (fun _ => ?_)
set_option maxHeartbeats 8000000 in
set_option maxRecDepth 100000 in
theorem isa_Enc.calls (k : Nat) (a0_0 : Int) (a0_1 : Int) (a0_2 : Int) (a0_3 : Int) (a0_4 : Int) (r1 : Int) (r2 : Int) (w : World) (h : isa_Enc.f k a0_0 a0_1 a0_2 a0_3 a0_4 = some (r1, r2)) :
    Calls Tryd.prog 11 #[.agg #[.int .u8 a0_0, .int .u8 a0_1, .int .u8 a0_2, .int .u8 a0_3, .int .i32 a0_4]] w fun e w' => e = .returned (.tuple #[.int .u32 r1, .int .i64 r2]) ∧ Below w.heap.size w w' := by
  have hu48 := Tryd.underlying48
  have HB := Aside0.mk (Below.refl w.heap.size w)
  have H : ((isa_form.f a0_0).bind fun t105 => (if t105 = 0 then (some (0, 16)) else ((isa_has.f t105).bind fun bt106 => (if a0_1 > 15 then (isa_Enc.j0 k bt106.2.2.2 true a0_0 a0_1 a0_2 a0_3 a0_4) else (if a0_2 > 15 then (isa_Enc.j0 k bt106.2.2.2 true a0_0 a0_1 a0_2 a0_3 a0_4) else (if a0_3 > 15 then (isa_Enc.j0 k bt106.2.2.2 true a0_0 a0_1 a0_2 a0_3 a0_4) else (if bt106.1 = true then (if bt106.2.1 = true then (if bt106.2.2.1 = true then (if bt106.2.2.2 = true then (isa_Enc.j0 k bt106.2.2.2 false a0_0 a0_1 a0_2 a0_3 a0_4) else (isa_Enc.j0 k bt106.2.2.2 (a0_4 != 0) a0_0 a0_1 a0_2 a0_3 a0_4)) else (if a0_3 = 0 then (if bt106.2.2.2 = true then (isa_Enc.j0 k bt106.2.2.2 false a0_0 a0_1 a0_2 a0_3 a0_4) else (isa_Enc.j0 k bt106.2.2.2 (a0_4 != 0) a0_0 a0_1 a0_2 a0_3 a0_4)) else (isa_Enc.j0 k bt106.2.2.2 true a0_0 a0_1 a0_2 a0_3 a0_4))) else (if a0_2 = 0 then (if bt106.2.2.1 = true then (if bt106.2.2.2 = true then (isa_Enc.j0 k bt106.2.2.2 false a0_0 a0_1 a0_2 a0_3 a0_4) else (isa_Enc.j0 k bt106.2.2.2 (a0_4 != 0) a0_0 a0_1 a0_2 a0_3 a0_4)) else (if a0_3 = 0 then (if bt106.2.2.2 = true then (isa_Enc.j0 k bt106.2.2.2 false a0_0 a0_1 a0_2 a0_3 a0_4) else (isa_Enc.j0 k bt106.2.2.2 (a0_4 != 0) a0_0 a0_1 a0_2 a0_3 a0_4)) else (isa_Enc.j0 k bt106.2.2.2 true a0_0 a0_1 a0_2 a0_3 a0_4))) else (isa_Enc.j0 k bt106.2.2.2 true a0_0 a0_1 a0_2 a0_3 a0_4))) else (if a0_1 = 0 then (if bt106.2.1 = true then (if bt106.2.2.1 = true then (if bt106.2.2.2 = true then (isa_Enc.j0 k bt106.2.2.2 false a0_0 a0_1 a0_2 a0_3 a0_4) else (isa_Enc.j0 k bt106.2.2.2 (a0_4 != 0) a0_0 a0_1 a0_2 a0_3 a0_4)) else (if a0_3 = 0 then (if bt106.2.2.2 = true then (isa_Enc.j0 k bt106.2.2.2 false a0_0 a0_1 a0_2 a0_3 a0_4) else (isa_Enc.j0 k bt106.2.2.2 (a0_4 != 0) a0_0 a0_1 a0_2 a0_3 a0_4)) else (isa_Enc.j0 k bt106.2.2.2 true a0_0 a0_1 a0_2 a0_3 a0_4))) else (if a0_2 = 0 then (if bt106.2.2.1 = true then (if bt106.2.2.2 = true then (isa_Enc.j0 k bt106.2.2.2 false a0_0 a0_1 a0_2 a0_3 a0_4) else (isa_Enc.j0 k bt106.2.2.2 (a0_4 != 0) a0_0 a0_1 a0_2 a0_3 a0_4)) else (if a0_3 = 0 then (if bt106.2.2.2 = true then (isa_Enc.j0 k bt106.2.2.2 false a0_0 a0_1 a0_2 a0_3 a0_4) else (isa_Enc.j0 k bt106.2.2.2 (a0_4 != 0) a0_0 a0_1 a0_2 a0_3 a0_4)) else (isa_Enc.j0 k bt106.2.2.2 true a0_0 a0_1 a0_2 a0_3 a0_4))) else (isa_Enc.j0 k bt106.2.2.2 true a0_0 a0_1 a0_2 a0_3 a0_4))) else (isa_Enc.j0 k bt106.2.2.2 true a0_0 a0_1 a0_2 a0_3 a0_4))))))))) = some (r1, r2) := h
  clear h
  replace H := Option.bind_eq_some_iff.mp H
  obtain ⟨t105, A20, H⟩ := H
  replace H : (if t105 = 0 then (some (0, 16)) else ((isa_has.f t105).bind fun bt106 => (if a0_1 > 15 then (isa_Enc.j0 k bt106.2.2.2 true a0_0 a0_1 a0_2 a0_3 a0_4) else (if a0_2 > 15 then (isa_Enc.j0 k bt106.2.2.2 true a0_0 a0_1 a0_2 a0_3 a0_4) else (if a0_3 > 15 then (isa_Enc.j0 k bt106.2.2.2 true a0_0 a0_1 a0_2 a0_3 a0_4) else (if bt106.1 = true then (if bt106.2.1 = true then (if bt106.2.2.1 = true then (if bt106.2.2.2 = true then (isa_Enc.j0 k bt106.2.2.2 false a0_0 a0_1 a0_2 a0_3 a0_4) else (isa_Enc.j0 k bt106.2.2.2 (a0_4 != 0) a0_0 a0_1 a0_2 a0_3 a0_4)) else (if a0_3 = 0 then (if bt106.2.2.2 = true then (isa_Enc.j0 k bt106.2.2.2 false a0_0 a0_1 a0_2 a0_3 a0_4) else (isa_Enc.j0 k bt106.2.2.2 (a0_4 != 0) a0_0 a0_1 a0_2 a0_3 a0_4)) else (isa_Enc.j0 k bt106.2.2.2 true a0_0 a0_1 a0_2 a0_3 a0_4))) else (if a0_2 = 0 then (if bt106.2.2.1 = true then (if bt106.2.2.2 = true then (isa_Enc.j0 k bt106.2.2.2 false a0_0 a0_1 a0_2 a0_3 a0_4) else (isa_Enc.j0 k bt106.2.2.2 (a0_4 != 0) a0_0 a0_1 a0_2 a0_3 a0_4)) else (if a0_3 = 0 then (if bt106.2.2.2 = true then (isa_Enc.j0 k bt106.2.2.2 false a0_0 a0_1 a0_2 a0_3 a0_4) else (isa_Enc.j0 k bt106.2.2.2 (a0_4 != 0) a0_0 a0_1 a0_2 a0_3 a0_4)) else (isa_Enc.j0 k bt106.2.2.2 true a0_0 a0_1 a0_2 a0_3 a0_4))) else (isa_Enc.j0 k bt106.2.2.2 true a0_0 a0_1 a0_2 a0_3 a0_4))) else (if a0_1 = 0 then (if bt106.2.1 = true then (if bt106.2.2.1 = true then (if bt106.2.2.2 = true then (isa_Enc.j0 k bt106.2.2.2 false a0_0 a0_1 a0_2 a0_3 a0_4) else (isa_Enc.j0 k bt106.2.2.2 (a0_4 != 0) a0_0 a0_1 a0_2 a0_3 a0_4)) else (if a0_3 = 0 then (if bt106.2.2.2 = true then (isa_Enc.j0 k bt106.2.2.2 false a0_0 a0_1 a0_2 a0_3 a0_4) else (isa_Enc.j0 k bt106.2.2.2 (a0_4 != 0) a0_0 a0_1 a0_2 a0_3 a0_4)) else (isa_Enc.j0 k bt106.2.2.2 true a0_0 a0_1 a0_2 a0_3 a0_4))) else (if a0_2 = 0 then (if bt106.2.2.1 = true then (if bt106.2.2.2 = true then (isa_Enc.j0 k bt106.2.2.2 false a0_0 a0_1 a0_2 a0_3 a0_4) else (isa_Enc.j0 k bt106.2.2.2 (a0_4 != 0) a0_0 a0_1 a0_2 a0_3 a0_4)) else (if a0_3 = 0 then (if bt106.2.2.2 = true then (isa_Enc.j0 k bt106.2.2.2 false a0_0 a0_1 a0_2 a0_3 a0_4) else (isa_Enc.j0 k bt106.2.2.2 (a0_4 != 0) a0_0 a0_1 a0_2 a0_3 a0_4)) else (isa_Enc.j0 k bt106.2.2.2 true a0_0 a0_1 a0_2 a0_3 a0_4))) else (isa_Enc.j0 k bt106.2.2.2 true a0_0 a0_1 a0_2 a0_3 a0_4))) else (isa_Enc.j0 k bt106.2.2.2 true a0_0 a0_1 a0_2 a0_3 a0_4)))))))) = some (r1, r2) := H
  have A2 := Aside0.mk A20
  clear A20
  by_cases c3 : t105 = 0
  · rw [if_pos c3] at H
    have c3b0 : (t105 == 0) = true := beq_iff_eq.mpr c3
    have c3b1 : (t105 != 0) = false := bne_eq_false_iff_eq.mpr c3
    clear c3
    simp only [Option.some.injEq, Prod.mk.injEq] at H
    obtain ⟨rfl, rfl⟩ := H
    go_enter Tryd.func11, Tryd.ntmps11
    go_wp2_with (first | ((with_reducible refine gate_dst (N := 1) rfl ?_); refine box_event ?hg (N := 1) ?hd (cs := #[.int .u8 a0_0, .int .u8 a0_1, .int .u8 a0_2, .int .u8 a0_3, .int .i32 a0_4]) (t := 48) ?hr ?_; (case hd => rfl); (case hg => rfl); (case hr => first | (go_simp; done) | (go_simp; rfl)); intro gb104 hg w4 hbox hb; have n0_ := Aside0.mk (below_step (by repeat (first | (with_reducible first | exact HB.out | apply below_alloc | apply pw_below_drewN | apply below_drew1) | exact HB.out)) hb); have n1_ := Aside0.mk (hbox); have n2_ := Aside0.mk ((by rw [hg]; exact (below_size (by repeat (first | (with_reducible first | exact HB.out | apply below_alloc | apply pw_below_drewN | apply below_drew1) | exact HB.out))) : w.heap.size ≤ gb104)); have n3_ := Aside0.mk ((by rw [hg]; exact (below_size (by repeat (first | (with_reducible first | exact HB.out | apply below_alloc | apply pw_below_drewN | apply below_drew1) | exact HB.out))) : w.heap.size ≤ gb104)); clear HB; have HB := n0_; have BK104 := n1_; have GW104 := n2_; have GE104 := n3_; clear n0_ n1_ n2_ n3_; clear hb hbox hg; have hcz5_0 : w4.cell? ⟨gb104, 0, none⟩ = some (.int .u8 a0_0) := (blk_cell BK104.out 0).trans rfl; have hcz5_1 : w4.cell? ⟨gb104, 1, none⟩ = some (.int .u8 a0_1) := (blk_cell BK104.out 1).trans rfl; have hcz5_2 : w4.cell? ⟨gb104, 2, none⟩ = some (.int .u8 a0_2) := (blk_cell BK104.out 2).trans rfl; have hcz5_3 : w4.cell? ⟨gb104, 3, none⟩ = some (.int .u8 a0_3) := (blk_cell BK104.out 3).trans rfl; have hcz5_4 : w4.cell? ⟨gb104, 4, none⟩ = some (.int .i32 a0_4) := (blk_cell BK104.out 4).trans rfl; have hfz5_0 := blk_frozen BK104.out 0; have hfz5_1 := blk_frozen BK104.out 1; have hfz5_2 := blk_frozen BK104.out 2; have hfz5_3 := blk_frozen BK104.out 3; have hfz5_4 := blk_frozen BK104.out 4) | ((with_reducible refine gate_callee (f := 21) rfl ?_); refine goesL_ (some 12) rfl rfl Tryd.func21 (by kernel_rfl) rfl #[.int .u8 a0_0] rfl (by (try simp only [List.map_toArray, List.map_cons, List.map_nil]); first | done | rfl | (simp only [List.length_drop, List.length_take]; rfl)) ?_; (with_reducible refine (isa_form.calls a0_0 t105 _ A2.out).mono ?_); rintro e w' ⟨rfl, ⟨nd, rfl⟩⟩; refine ⟨_, rfl, ?_⟩))
    go_ret2
    exact ⟨by first | rfl | (simp [errW_none, errW_some] <;> rfl) | (simp [*, errW_none, errW_some] <;> rfl), by repeat (first | (with_reducible first | exact HB.out | apply below_alloc | apply pw_below_drewN | apply below_drew1 | refine below_set ?_ GE104.out) | exact HB.out)⟩
  · rw [if_neg c3] at H
    have c3b0 : (t105 == 0) = false := beq_eq_false_iff_ne.mpr c3
    have c3b1 : (t105 != 0) = true := bne_iff_ne.mpr c3
    replace H := Option.bind_eq_some_iff.mp H
    obtain ⟨⟨t106, t107, t108, t109⟩, A60, H⟩ := H
    replace H : (if a0_1 > 15 then (isa_Enc.j0 k t109 true a0_0 a0_1 a0_2 a0_3 a0_4) else (if a0_2 > 15 then (isa_Enc.j0 k t109 true a0_0 a0_1 a0_2 a0_3 a0_4) else (if a0_3 > 15 then (isa_Enc.j0 k t109 true a0_0 a0_1 a0_2 a0_3 a0_4) else (if t106 = true then (if t107 = true then (if t108 = true then (if t109 = true then (isa_Enc.j0 k t109 false a0_0 a0_1 a0_2 a0_3 a0_4) else (isa_Enc.j0 k t109 (a0_4 != 0) a0_0 a0_1 a0_2 a0_3 a0_4)) else (if a0_3 = 0 then (if t109 = true then (isa_Enc.j0 k t109 false a0_0 a0_1 a0_2 a0_3 a0_4) else (isa_Enc.j0 k t109 (a0_4 != 0) a0_0 a0_1 a0_2 a0_3 a0_4)) else (isa_Enc.j0 k t109 true a0_0 a0_1 a0_2 a0_3 a0_4))) else (if a0_2 = 0 then (if t108 = true then (if t109 = true then (isa_Enc.j0 k t109 false a0_0 a0_1 a0_2 a0_3 a0_4) else (isa_Enc.j0 k t109 (a0_4 != 0) a0_0 a0_1 a0_2 a0_3 a0_4)) else (if a0_3 = 0 then (if t109 = true then (isa_Enc.j0 k t109 false a0_0 a0_1 a0_2 a0_3 a0_4) else (isa_Enc.j0 k t109 (a0_4 != 0) a0_0 a0_1 a0_2 a0_3 a0_4)) else (isa_Enc.j0 k t109 true a0_0 a0_1 a0_2 a0_3 a0_4))) else (isa_Enc.j0 k t109 true a0_0 a0_1 a0_2 a0_3 a0_4))) else (if a0_1 = 0 then (if t107 = true then (if t108 = true then (if t109 = true then (isa_Enc.j0 k t109 false a0_0 a0_1 a0_2 a0_3 a0_4) else (isa_Enc.j0 k t109 (a0_4 != 0) a0_0 a0_1 a0_2 a0_3 a0_4)) else (if a0_3 = 0 then (if t109 = true then (isa_Enc.j0 k t109 false a0_0 a0_1 a0_2 a0_3 a0_4) else (isa_Enc.j0 k t109 (a0_4 != 0) a0_0 a0_1 a0_2 a0_3 a0_4)) else (isa_Enc.j0 k t109 true a0_0 a0_1 a0_2 a0_3 a0_4))) else (if a0_2 = 0 then (if t108 = true then (if t109 = true then (isa_Enc.j0 k t109 false a0_0 a0_1 a0_2 a0_3 a0_4) else (isa_Enc.j0 k t109 (a0_4 != 0) a0_0 a0_1 a0_2 a0_3 a0_4)) else (if a0_3 = 0 then (if t109 = true then (isa_Enc.j0 k t109 false a0_0 a0_1 a0_2 a0_3 a0_4) else (isa_Enc.j0 k t109 (a0_4 != 0) a0_0 a0_1 a0_2 a0_3 a0_4)) else (isa_Enc.j0 k t109 true a0_0 a0_1 a0_2 a0_3 a0_4))) else (isa_Enc.j0 k t109 true a0_0 a0_1 a0_2 a0_3 a0_4))) else (isa_Enc.j0 k t109 true a0_0 a0_1 a0_2 a0_3 a0_4)))))) = some (r1, r2) := H
    have A6 := Aside0.mk A60
    clear A60
    have HC7 := Aside0.mk H
    clear H
    go_enter Tryd.func11, Tryd.ntmps11
    go_upto_region 5 with (first | ((with_reducible refine gate_dst (N := 1) rfl ?_); refine box_event ?hg (N := 1) ?hd (cs := #[.int .u8 a0_0, .int .u8 a0_1, .int .u8 a0_2, .int .u8 a0_3, .int .i32 a0_4]) (t := 48) ?hr ?_; (case hd => rfl); (case hg => rfl); (case hr => first | (go_simp; done) | (go_simp; rfl)); intro gb104 hg w8 hbox hb; have n0_ := Aside0.mk (below_step (by repeat (first | (with_reducible first | exact HB.out | apply below_alloc | apply pw_below_drewN | apply below_drew1) | exact HB.out)) hb); have n1_ := Aside0.mk (hbox); have n2_ := Aside0.mk ((by rw [hg]; exact (below_size (by repeat (first | (with_reducible first | exact HB.out | apply below_alloc | apply pw_below_drewN | apply below_drew1) | exact HB.out))) : w.heap.size ≤ gb104)); have n3_ := Aside0.mk ((by rw [hg]; exact (below_size (by repeat (first | (with_reducible first | exact HB.out | apply below_alloc | apply pw_below_drewN | apply below_drew1) | exact HB.out))) : w.heap.size ≤ gb104)); clear HB; have HB := n0_; have BK104 := n1_; have GW104 := n2_; have GE104 := n3_; clear n0_ n1_ n2_ n3_; clear hb hbox hg; have hcz9_0 : w8.cell? ⟨gb104, 0, none⟩ = some (.int .u8 a0_0) := (blk_cell BK104.out 0).trans rfl; have hcz9_1 : w8.cell? ⟨gb104, 1, none⟩ = some (.int .u8 a0_1) := (blk_cell BK104.out 1).trans rfl; have hcz9_2 : w8.cell? ⟨gb104, 2, none⟩ = some (.int .u8 a0_2) := (blk_cell BK104.out 2).trans rfl; have hcz9_3 : w8.cell? ⟨gb104, 3, none⟩ = some (.int .u8 a0_3) := (blk_cell BK104.out 3).trans rfl; have hcz9_4 : w8.cell? ⟨gb104, 4, none⟩ = some (.int .i32 a0_4) := (blk_cell BK104.out 4).trans rfl; have hfz9_0 := blk_frozen BK104.out 0; have hfz9_1 := blk_frozen BK104.out 1; have hfz9_2 := blk_frozen BK104.out 2; have hfz9_3 := blk_frozen BK104.out 3; have hfz9_4 := blk_frozen BK104.out 4) | ((with_reducible refine gate_callee (f := 21) rfl ?_); refine goesL_ (some 12) rfl rfl Tryd.func21 (by kernel_rfl) rfl #[.int .u8 a0_0] rfl (by (try simp only [List.map_toArray, List.map_cons, List.map_nil]); first | done | rfl | (simp only [List.length_drop, List.length_take]; rfl)) ?_; (with_reducible refine (isa_form.calls a0_0 t105 _ A2.out).mono ?_); rintro e w' ⟨rfl, ⟨nd, rfl⟩⟩; refine ⟨_, rfl, ?_⟩) | ((with_reducible refine gate_callee (f := 22) rfl ?_); refine goesL_ (some 17) rfl rfl Tryd.func22 (by kernel_rfl) rfl #[.int .u8 t105] rfl (by (try simp only [List.map_toArray, List.map_cons, List.map_nil]); first | done | rfl | (simp only [List.length_drop, List.length_take]; rfl)) ?_; (with_reducible refine (isa_has.calls t105 t106 t107 t108 t109 _ A6.out).mono ?_); rintro e w' ⟨rfl, ⟨nd, rfl⟩⟩; refine ⟨_, rfl, ?_⟩))
    (try simp only [Act.put, List.setIfInBounds_toArray, List.set_cons_zero, List.set_cons_succ])
    go_cut [70] (fun v70 wc => ∃ (kq : Nat) (x70_6 : Bool), v70 = .bool x70_6 ∧ Aside0 (isa_Enc.j0 kq t109 x70_6 a0_0 a0_1 a0_2 a0_3 a0_4 = some (r1, r2)) ∧ Aside0 (kq ≤ k) ∧ Aside0 (wc.heap[gb104]? = some (.cells #[.int .u8 a0_0, .int .u8 a0_1, .int .u8 a0_2, .int .u8 a0_3, .int .i32 a0_4] 48 (0, 0))) ∧ Aside0 (Below w.heap.size w wc))
    case first =>
      have H := HC7.out
      clear HC7
      by_cases c10 : a0_1 > 15
      · rw [if_pos c10] at H
        have c10b0 : decide (15 < a0_1) = true := decide_eq_true c10
        clear c10
        (first | rw [c10b0] | (simp only [i64_w, i32_w]; rw [c10b0]) | skip)
        have H' := Aside0.mk H
        clear H
        have hcz11_0 : w8.cell? ⟨gb104, 0, none⟩ = some (.int .u8 a0_0) := (blk_cell BK104.out 0).trans rfl
        have hcz11_1 : w8.cell? ⟨gb104, 1, none⟩ = some (.int .u8 a0_1) := (blk_cell BK104.out 1).trans rfl
        have hcz11_2 : w8.cell? ⟨gb104, 2, none⟩ = some (.int .u8 a0_2) := (blk_cell BK104.out 2).trans rfl
        have hcz11_3 : w8.cell? ⟨gb104, 3, none⟩ = some (.int .u8 a0_3) := (blk_cell BK104.out 3).trans rfl
        have hcz11_4 : w8.cell? ⟨gb104, 4, none⟩ = some (.int .i32 a0_4) := (blk_cell BK104.out 4).trans rfl
        have hfz11_0 := blk_frozen BK104.out 0
        have hfz11_1 := blk_frozen BK104.out 1
        have hfz11_2 := blk_frozen BK104.out 2
        have hfz11_3 := blk_frozen BK104.out 3
        have hfz11_4 := blk_frozen BK104.out 4
        go_wp2
        go_meet
        case rel => exact ⟨_, (true), (by first | rfl | (simp; done) | (simp [*]; done)), H', ⟨by first | omega | exact Nat.le_refl _⟩, ⟨by (with_reducible repeat (first | refine blk_drewN ?_ _ | refine blk_drew ?_ | refine blk_alloc ?_ _)); exact BK104.out⟩, ⟨by repeat (first | (with_reducible first | exact HB.out | apply below_alloc | apply pw_below_drewN | apply below_drew1 | refine below_set ?_ GE104.out) | exact HB.out)⟩⟩
      · rw [if_neg c10] at H
        have c10b0 : decide (15 < a0_1) = false := decide_eq_false c10
        clear c10
        (first | rw [c10b0] | (simp only [i64_w, i32_w]; rw [c10b0]) | skip)
        by_cases c12 : a0_2 > 15
        · rw [if_pos c12] at H
          have c12b0 : decide (15 < a0_2) = true := decide_eq_true c12
          clear c12
          have H' := Aside0.mk H
          clear H
          have hcz13_0 : w8.cell? ⟨gb104, 0, none⟩ = some (.int .u8 a0_0) := (blk_cell BK104.out 0).trans rfl
          have hcz13_1 : w8.cell? ⟨gb104, 1, none⟩ = some (.int .u8 a0_1) := (blk_cell BK104.out 1).trans rfl
          have hcz13_2 : w8.cell? ⟨gb104, 2, none⟩ = some (.int .u8 a0_2) := (blk_cell BK104.out 2).trans rfl
          have hcz13_3 : w8.cell? ⟨gb104, 3, none⟩ = some (.int .u8 a0_3) := (blk_cell BK104.out 3).trans rfl
          have hcz13_4 : w8.cell? ⟨gb104, 4, none⟩ = some (.int .i32 a0_4) := (blk_cell BK104.out 4).trans rfl
          have hfz13_0 := blk_frozen BK104.out 0
          have hfz13_1 := blk_frozen BK104.out 1
          have hfz13_2 := blk_frozen BK104.out 2
          have hfz13_3 := blk_frozen BK104.out 3
          have hfz13_4 := blk_frozen BK104.out 4
          go_wp2
          go_meet
          case rel => exact ⟨_, (true), (by first | rfl | (simp; done) | (simp [*]; done)), H', ⟨by first | omega | exact Nat.le_refl _⟩, ⟨by (with_reducible repeat (first | refine blk_drewN ?_ _ | refine blk_drew ?_ | refine blk_alloc ?_ _)); exact BK104.out⟩, ⟨by repeat (first | (with_reducible first | exact HB.out | apply below_alloc | apply pw_below_drewN | apply below_drew1 | refine below_set ?_ GE104.out) | exact HB.out)⟩⟩
        · rw [if_neg c12] at H
          have c12b0 : decide (15 < a0_2) = false := decide_eq_false c12
          clear c12
          by_cases c14 : a0_3 > 15
          · rw [if_pos c14] at H
            have c14b0 : decide (15 < a0_3) = true := decide_eq_true c14
            clear c14
            have H' := Aside0.mk H
            clear H
            have hcz15_0 : w8.cell? ⟨gb104, 0, none⟩ = some (.int .u8 a0_0) := (blk_cell BK104.out 0).trans rfl
            have hcz15_1 : w8.cell? ⟨gb104, 1, none⟩ = some (.int .u8 a0_1) := (blk_cell BK104.out 1).trans rfl
            have hcz15_2 : w8.cell? ⟨gb104, 2, none⟩ = some (.int .u8 a0_2) := (blk_cell BK104.out 2).trans rfl
            have hcz15_3 : w8.cell? ⟨gb104, 3, none⟩ = some (.int .u8 a0_3) := (blk_cell BK104.out 3).trans rfl
            have hcz15_4 : w8.cell? ⟨gb104, 4, none⟩ = some (.int .i32 a0_4) := (blk_cell BK104.out 4).trans rfl
            have hfz15_0 := blk_frozen BK104.out 0
            have hfz15_1 := blk_frozen BK104.out 1
            have hfz15_2 := blk_frozen BK104.out 2
            have hfz15_3 := blk_frozen BK104.out 3
            have hfz15_4 := blk_frozen BK104.out 4
            go_wp2
            go_meet
            case rel => exact ⟨_, (true), (by first | rfl | (simp; done) | (simp [*]; done)), H', ⟨by first | omega | exact Nat.le_refl _⟩, ⟨by (with_reducible repeat (first | refine blk_drewN ?_ _ | refine blk_drew ?_ | refine blk_alloc ?_ _)); exact BK104.out⟩, ⟨by repeat (first | (with_reducible first | exact HB.out | apply below_alloc | apply pw_below_drewN | apply below_drew1 | refine below_set ?_ GE104.out) | exact HB.out)⟩⟩
          · rw [if_neg c14] at H
            have c14b0 : decide (15 < a0_3) = false := decide_eq_false c14
            clear c14
            by_cases c16 : t106 = true
            · subst c16
              have H1 : (if t107 = true then (if t108 = true then (if t109 = true then (isa_Enc.j0 k t109 false a0_0 a0_1 a0_2 a0_3 a0_4) else (isa_Enc.j0 k t109 (a0_4 != 0) a0_0 a0_1 a0_2 a0_3 a0_4)) else (if a0_3 = 0 then (if t109 = true then (isa_Enc.j0 k t109 false a0_0 a0_1 a0_2 a0_3 a0_4) else (isa_Enc.j0 k t109 (a0_4 != 0) a0_0 a0_1 a0_2 a0_3 a0_4)) else (isa_Enc.j0 k t109 true a0_0 a0_1 a0_2 a0_3 a0_4))) else (if a0_2 = 0 then (if t108 = true then (if t109 = true then (isa_Enc.j0 k t109 false a0_0 a0_1 a0_2 a0_3 a0_4) else (isa_Enc.j0 k t109 (a0_4 != 0) a0_0 a0_1 a0_2 a0_3 a0_4)) else (if a0_3 = 0 then (if t109 = true then (isa_Enc.j0 k t109 false a0_0 a0_1 a0_2 a0_3 a0_4) else (isa_Enc.j0 k t109 (a0_4 != 0) a0_0 a0_1 a0_2 a0_3 a0_4)) else (isa_Enc.j0 k t109 true a0_0 a0_1 a0_2 a0_3 a0_4))) else (isa_Enc.j0 k t109 true a0_0 a0_1 a0_2 a0_3 a0_4))) = some (r1, r2) := by rw [if_pos rfl] at H; exact H
              clear H
              have H := H1
              clear H1
              by_cases c17 : t107 = true
              · subst c17
                have H1 : (if t108 = true then (if t109 = true then (isa_Enc.j0 k t109 false a0_0 a0_1 a0_2 a0_3 a0_4) else (isa_Enc.j0 k t109 (a0_4 != 0) a0_0 a0_1 a0_2 a0_3 a0_4)) else (if a0_3 = 0 then (if t109 = true then (isa_Enc.j0 k t109 false a0_0 a0_1 a0_2 a0_3 a0_4) else (isa_Enc.j0 k t109 (a0_4 != 0) a0_0 a0_1 a0_2 a0_3 a0_4)) else (isa_Enc.j0 k t109 true a0_0 a0_1 a0_2 a0_3 a0_4))) = some (r1, r2) := by rw [if_pos rfl] at H; exact H
                clear H
                have H := H1
                clear H1
                by_cases c18 : t108 = true
                · subst c18
                  have H1 : (if t109 = true then (isa_Enc.j0 k t109 false a0_0 a0_1 a0_2 a0_3 a0_4) else (isa_Enc.j0 k t109 (a0_4 != 0) a0_0 a0_1 a0_2 a0_3 a0_4)) = some (r1, r2) := by rw [if_pos rfl] at H; exact H
                  clear H
                  have H := H1
                  clear H1
                  by_cases c19 : t109 = true
                  · subst c19
                    have H1 : (isa_Enc.j0 k true false a0_0 a0_1 a0_2 a0_3 a0_4) = some (r1, r2) := by rw [if_pos rfl] at H; exact H
                    clear H
                    have H := H1
                    clear H1
                    have H' := Aside0.mk H
                    clear H
                    have hcz20_0 : w8.cell? ⟨gb104, 0, none⟩ = some (.int .u8 a0_0) := (blk_cell BK104.out 0).trans rfl
                    have hcz20_1 : w8.cell? ⟨gb104, 1, none⟩ = some (.int .u8 a0_1) := (blk_cell BK104.out 1).trans rfl
                    have hcz20_2 : w8.cell? ⟨gb104, 2, none⟩ = some (.int .u8 a0_2) := (blk_cell BK104.out 2).trans rfl
                    have hcz20_3 : w8.cell? ⟨gb104, 3, none⟩ = some (.int .u8 a0_3) := (blk_cell BK104.out 3).trans rfl
                    have hcz20_4 : w8.cell? ⟨gb104, 4, none⟩ = some (.int .i32 a0_4) := (blk_cell BK104.out 4).trans rfl
                    have hfz20_0 := blk_frozen BK104.out 0
                    have hfz20_1 := blk_frozen BK104.out 1
                    have hfz20_2 := blk_frozen BK104.out 2
                    have hfz20_3 := blk_frozen BK104.out 3
                    have hfz20_4 := blk_frozen BK104.out 4
                    go_wp2
                    go_meet
                    case rel => exact ⟨_, (false), (by first | rfl | (simp; done) | (simp [*]; done)), H', ⟨by first | omega | exact Nat.le_refl _⟩, ⟨by (with_reducible repeat (first | refine blk_drewN ?_ _ | refine blk_drew ?_ | refine blk_alloc ?_ _)); exact BK104.out⟩, ⟨by repeat (first | (with_reducible first | exact HB.out | apply below_alloc | apply pw_below_drewN | apply below_drew1 | refine below_set ?_ GE104.out) | exact HB.out)⟩⟩
                  · replace c19 := Bool.eq_false_iff.mpr c19
                    subst c19
                    have H1 : (isa_Enc.j0 k false (a0_4 != 0) a0_0 a0_1 a0_2 a0_3 a0_4) = some (r1, r2) := by rw [if_neg (show ¬ (false = true) by decide)] at H; exact H
                    clear H
                    have H := H1
                    clear H1
                    have H' := Aside0.mk H
                    clear H
                    have hcz21_0 : w8.cell? ⟨gb104, 0, none⟩ = some (.int .u8 a0_0) := (blk_cell BK104.out 0).trans rfl
                    have hcz21_1 : w8.cell? ⟨gb104, 1, none⟩ = some (.int .u8 a0_1) := (blk_cell BK104.out 1).trans rfl
                    have hcz21_2 : w8.cell? ⟨gb104, 2, none⟩ = some (.int .u8 a0_2) := (blk_cell BK104.out 2).trans rfl
                    have hcz21_3 : w8.cell? ⟨gb104, 3, none⟩ = some (.int .u8 a0_3) := (blk_cell BK104.out 3).trans rfl
                    have hcz21_4 : w8.cell? ⟨gb104, 4, none⟩ = some (.int .i32 a0_4) := (blk_cell BK104.out 4).trans rfl
                    have hfz21_0 := blk_frozen BK104.out 0
                    have hfz21_1 := blk_frozen BK104.out 1
                    have hfz21_2 := blk_frozen BK104.out 2
                    have hfz21_3 := blk_frozen BK104.out 3
                    have hfz21_4 := blk_frozen BK104.out 4
                    go_wp2
                    go_meet
                    case rel => exact ⟨_, ((a0_4 != 0)), (by first | rfl | (simp; done) | (simp [*]; done)), H', ⟨by first | omega | exact Nat.le_refl _⟩, ⟨by (with_reducible repeat (first | refine blk_drewN ?_ _ | refine blk_drew ?_ | refine blk_alloc ?_ _)); exact BK104.out⟩, ⟨by repeat (first | (with_reducible first | exact HB.out | apply below_alloc | apply pw_below_drewN | apply below_drew1 | refine below_set ?_ GE104.out) | exact HB.out)⟩⟩
                · replace c18 := Bool.eq_false_iff.mpr c18
                  subst c18
                  have H1 : (if a0_3 = 0 then (if t109 = true then (isa_Enc.j0 k t109 false a0_0 a0_1 a0_2 a0_3 a0_4) else (isa_Enc.j0 k t109 (a0_4 != 0) a0_0 a0_1 a0_2 a0_3 a0_4)) else (isa_Enc.j0 k t109 true a0_0 a0_1 a0_2 a0_3 a0_4)) = some (r1, r2) := by rw [if_neg (show ¬ (false = true) by decide)] at H; exact H
                  clear H
                  have H := H1
                  clear H1
                  by_cases c22 : a0_3 = 0
                  · rw [if_pos c22] at H
                    have c22b0 : (a0_3 == 0) = true := beq_iff_eq.mpr c22
                    have c22b1 : (a0_3 != 0) = false := bne_eq_false_iff_eq.mpr c22
                    clear c22
                    by_cases c23 : t109 = true
                    · subst c23
                      have H1 : (isa_Enc.j0 k true false a0_0 a0_1 a0_2 a0_3 a0_4) = some (r1, r2) := by rw [if_pos rfl] at H; exact H
                      clear H
                      have H := H1
                      clear H1
                      have H' := Aside0.mk H
                      clear H
                      have hcz24_0 : w8.cell? ⟨gb104, 0, none⟩ = some (.int .u8 a0_0) := (blk_cell BK104.out 0).trans rfl
                      have hcz24_1 : w8.cell? ⟨gb104, 1, none⟩ = some (.int .u8 a0_1) := (blk_cell BK104.out 1).trans rfl
                      have hcz24_2 : w8.cell? ⟨gb104, 2, none⟩ = some (.int .u8 a0_2) := (blk_cell BK104.out 2).trans rfl
                      have hcz24_3 : w8.cell? ⟨gb104, 3, none⟩ = some (.int .u8 a0_3) := (blk_cell BK104.out 3).trans rfl
                      have hcz24_4 : w8.cell? ⟨gb104, 4, none⟩ = some (.int .i32 a0_4) := (blk_cell BK104.out 4).trans rfl
                      have hfz24_0 := blk_frozen BK104.out 0
                      have hfz24_1 := blk_frozen BK104.out 1
                      have hfz24_2 := blk_frozen BK104.out 2
                      have hfz24_3 := blk_frozen BK104.out 3
                      have hfz24_4 := blk_frozen BK104.out 4
                      go_wp2
                      go_meet
                      case rel => exact ⟨_, (false), (by first | rfl | (simp; done) | (simp [*]; done)), H', ⟨by first | omega | exact Nat.le_refl _⟩, ⟨by (with_reducible repeat (first | refine blk_drewN ?_ _ | refine blk_drew ?_ | refine blk_alloc ?_ _)); exact BK104.out⟩, ⟨by repeat (first | (with_reducible first | exact HB.out | apply below_alloc | apply pw_below_drewN | apply below_drew1 | refine below_set ?_ GE104.out) | exact HB.out)⟩⟩
                    · replace c23 := Bool.eq_false_iff.mpr c23
                      subst c23
                      have H1 : (isa_Enc.j0 k false (a0_4 != 0) a0_0 a0_1 a0_2 a0_3 a0_4) = some (r1, r2) := by rw [if_neg (show ¬ (false = true) by decide)] at H; exact H
                      clear H
                      have H := H1
                      clear H1
                      have H' := Aside0.mk H
                      clear H
                      have hcz25_0 : w8.cell? ⟨gb104, 0, none⟩ = some (.int .u8 a0_0) := (blk_cell BK104.out 0).trans rfl
                      have hcz25_1 : w8.cell? ⟨gb104, 1, none⟩ = some (.int .u8 a0_1) := (blk_cell BK104.out 1).trans rfl
                      have hcz25_2 : w8.cell? ⟨gb104, 2, none⟩ = some (.int .u8 a0_2) := (blk_cell BK104.out 2).trans rfl
                      have hcz25_3 : w8.cell? ⟨gb104, 3, none⟩ = some (.int .u8 a0_3) := (blk_cell BK104.out 3).trans rfl
                      have hcz25_4 : w8.cell? ⟨gb104, 4, none⟩ = some (.int .i32 a0_4) := (blk_cell BK104.out 4).trans rfl
                      have hfz25_0 := blk_frozen BK104.out 0
                      have hfz25_1 := blk_frozen BK104.out 1
                      have hfz25_2 := blk_frozen BK104.out 2
                      have hfz25_3 := blk_frozen BK104.out 3
                      have hfz25_4 := blk_frozen BK104.out 4
                      go_wp2
                      go_meet
                      case rel => exact ⟨_, ((a0_4 != 0)), (by first | rfl | (simp; done) | (simp [*]; done)), H', ⟨by first | omega | exact Nat.le_refl _⟩, ⟨by (with_reducible repeat (first | refine blk_drewN ?_ _ | refine blk_drew ?_ | refine blk_alloc ?_ _)); exact BK104.out⟩, ⟨by repeat (first | (with_reducible first | exact HB.out | apply below_alloc | apply pw_below_drewN | apply below_drew1 | refine below_set ?_ GE104.out) | exact HB.out)⟩⟩
                  · rw [if_neg c22] at H
                    have c22b0 : (a0_3 == 0) = false := beq_eq_false_iff_ne.mpr c22
                    have c22b1 : (a0_3 != 0) = true := bne_iff_ne.mpr c22
                    have H' := Aside0.mk H
                    clear H
                    have hcz26_0 : w8.cell? ⟨gb104, 0, none⟩ = some (.int .u8 a0_0) := (blk_cell BK104.out 0).trans rfl
                    have hcz26_1 : w8.cell? ⟨gb104, 1, none⟩ = some (.int .u8 a0_1) := (blk_cell BK104.out 1).trans rfl
                    have hcz26_2 : w8.cell? ⟨gb104, 2, none⟩ = some (.int .u8 a0_2) := (blk_cell BK104.out 2).trans rfl
                    have hcz26_3 : w8.cell? ⟨gb104, 3, none⟩ = some (.int .u8 a0_3) := (blk_cell BK104.out 3).trans rfl
                    have hcz26_4 : w8.cell? ⟨gb104, 4, none⟩ = some (.int .i32 a0_4) := (blk_cell BK104.out 4).trans rfl
                    have hfz26_0 := blk_frozen BK104.out 0
                    have hfz26_1 := blk_frozen BK104.out 1
                    have hfz26_2 := blk_frozen BK104.out 2
                    have hfz26_3 := blk_frozen BK104.out 3
                    have hfz26_4 := blk_frozen BK104.out 4
                    go_wp2
                    go_meet
                    case rel => exact ⟨_, (true), (by first | rfl | (simp; done) | (simp [*]; done)), H', ⟨by first | omega | exact Nat.le_refl _⟩, ⟨by (with_reducible repeat (first | refine blk_drewN ?_ _ | refine blk_drew ?_ | refine blk_alloc ?_ _)); exact BK104.out⟩, ⟨by repeat (first | (with_reducible first | exact HB.out | apply below_alloc | apply pw_below_drewN | apply below_drew1 | refine below_set ?_ GE104.out) | exact HB.out)⟩⟩
              · replace c17 := Bool.eq_false_iff.mpr c17
                subst c17
                have H1 : (if a0_2 = 0 then (if t108 = true then (if t109 = true then (isa_Enc.j0 k t109 false a0_0 a0_1 a0_2 a0_3 a0_4) else (isa_Enc.j0 k t109 (a0_4 != 0) a0_0 a0_1 a0_2 a0_3 a0_4)) else (if a0_3 = 0 then (if t109 = true then (isa_Enc.j0 k t109 false a0_0 a0_1 a0_2 a0_3 a0_4) else (isa_Enc.j0 k t109 (a0_4 != 0) a0_0 a0_1 a0_2 a0_3 a0_4)) else (isa_Enc.j0 k t109 true a0_0 a0_1 a0_2 a0_3 a0_4))) else (isa_Enc.j0 k t109 true a0_0 a0_1 a0_2 a0_3 a0_4)) = some (r1, r2) := by rw [if_neg (show ¬ (false = true) by decide)] at H; exact H
                clear H
                have H := H1
                clear H1
                by_cases c27 : a0_2 = 0
                · rw [if_pos c27] at H
                  have c27b0 : (a0_2 == 0) = true := beq_iff_eq.mpr c27
                  have c27b1 : (a0_2 != 0) = false := bne_eq_false_iff_eq.mpr c27
                  clear c27
                  by_cases c28 : t108 = true
                  · subst c28
                    have H1 : (if t109 = true then (isa_Enc.j0 k t109 false a0_0 a0_1 a0_2 a0_3 a0_4) else (isa_Enc.j0 k t109 (a0_4 != 0) a0_0 a0_1 a0_2 a0_3 a0_4)) = some (r1, r2) := by rw [if_pos rfl] at H; exact H
                    clear H
                    have H := H1
                    clear H1
                    by_cases c29 : t109 = true
                    · subst c29
                      have H1 : (isa_Enc.j0 k true false a0_0 a0_1 a0_2 a0_3 a0_4) = some (r1, r2) := by rw [if_pos rfl] at H; exact H
                      clear H
                      have H := H1
                      clear H1
                      have H' := Aside0.mk H
                      clear H
                      have hcz30_0 : w8.cell? ⟨gb104, 0, none⟩ = some (.int .u8 a0_0) := (blk_cell BK104.out 0).trans rfl
                      have hcz30_1 : w8.cell? ⟨gb104, 1, none⟩ = some (.int .u8 a0_1) := (blk_cell BK104.out 1).trans rfl
                      have hcz30_2 : w8.cell? ⟨gb104, 2, none⟩ = some (.int .u8 a0_2) := (blk_cell BK104.out 2).trans rfl
                      have hcz30_3 : w8.cell? ⟨gb104, 3, none⟩ = some (.int .u8 a0_3) := (blk_cell BK104.out 3).trans rfl
                      have hcz30_4 : w8.cell? ⟨gb104, 4, none⟩ = some (.int .i32 a0_4) := (blk_cell BK104.out 4).trans rfl
                      have hfz30_0 := blk_frozen BK104.out 0
                      have hfz30_1 := blk_frozen BK104.out 1
                      have hfz30_2 := blk_frozen BK104.out 2
                      have hfz30_3 := blk_frozen BK104.out 3
                      have hfz30_4 := blk_frozen BK104.out 4
                      go_wp2
                      go_meet
                      case rel => exact ⟨_, (false), (by first | rfl | (simp; done) | (simp [*]; done)), H', ⟨by first | omega | exact Nat.le_refl _⟩, ⟨by (with_reducible repeat (first | refine blk_drewN ?_ _ | refine blk_drew ?_ | refine blk_alloc ?_ _)); exact BK104.out⟩, ⟨by repeat (first | (with_reducible first | exact HB.out | apply below_alloc | apply pw_below_drewN | apply below_drew1 | refine below_set ?_ GE104.out) | exact HB.out)⟩⟩
                    · replace c29 := Bool.eq_false_iff.mpr c29
                      subst c29
                      have H1 : (isa_Enc.j0 k false (a0_4 != 0) a0_0 a0_1 a0_2 a0_3 a0_4) = some (r1, r2) := by rw [if_neg (show ¬ (false = true) by decide)] at H; exact H
                      clear H
                      have H := H1
                      clear H1
                      have H' := Aside0.mk H
                      clear H
                      have hcz31_0 : w8.cell? ⟨gb104, 0, none⟩ = some (.int .u8 a0_0) := (blk_cell BK104.out 0).trans rfl
                      have hcz31_1 : w8.cell? ⟨gb104, 1, none⟩ = some (.int .u8 a0_1) := (blk_cell BK104.out 1).trans rfl
                      have hcz31_2 : w8.cell? ⟨gb104, 2, none⟩ = some (.int .u8 a0_2) := (blk_cell BK104.out 2).trans rfl
                      have hcz31_3 : w8.cell? ⟨gb104, 3, none⟩ = some (.int .u8 a0_3) := (blk_cell BK104.out 3).trans rfl
                      have hcz31_4 : w8.cell? ⟨gb104, 4, none⟩ = some (.int .i32 a0_4) := (blk_cell BK104.out 4).trans rfl
                      have hfz31_0 := blk_frozen BK104.out 0
                      have hfz31_1 := blk_frozen BK104.out 1
                      have hfz31_2 := blk_frozen BK104.out 2
                      have hfz31_3 := blk_frozen BK104.out 3
                      have hfz31_4 := blk_frozen BK104.out 4
                      go_wp2
                      go_meet
                      case rel => exact ⟨_, ((a0_4 != 0)), (by first | rfl | (simp; done) | (simp [*]; done)), H', ⟨by first | omega | exact Nat.le_refl _⟩, ⟨by (with_reducible repeat (first | refine blk_drewN ?_ _ | refine blk_drew ?_ | refine blk_alloc ?_ _)); exact BK104.out⟩, ⟨by repeat (first | (with_reducible first | exact HB.out | apply below_alloc | apply pw_below_drewN | apply below_drew1 | refine below_set ?_ GE104.out) | exact HB.out)⟩⟩
                  · replace c28 := Bool.eq_false_iff.mpr c28
                    subst c28
                    have H1 : (if a0_3 = 0 then (if t109 = true then (isa_Enc.j0 k t109 false a0_0 a0_1 a0_2 a0_3 a0_4) else (isa_Enc.j0 k t109 (a0_4 != 0) a0_0 a0_1 a0_2 a0_3 a0_4)) else (isa_Enc.j0 k t109 true a0_0 a0_1 a0_2 a0_3 a0_4)) = some (r1, r2) := by rw [if_neg (show ¬ (false = true) by decide)] at H; exact H
                    clear H
                    have H := H1
                    clear H1
                    by_cases c32 : a0_3 = 0
                    · rw [if_pos c32] at H
                      have c32b0 : (a0_3 == 0) = true := beq_iff_eq.mpr c32
                      have c32b1 : (a0_3 != 0) = false := bne_eq_false_iff_eq.mpr c32
                      clear c32
                      by_cases c33 : t109 = true
                      · subst c33
                        have H1 : (isa_Enc.j0 k true false a0_0 a0_1 a0_2 a0_3 a0_4) = some (r1, r2) := by rw [if_pos rfl] at H; exact H
                        clear H
                        have H := H1
                        clear H1
                        have H' := Aside0.mk H
                        clear H
                        have hcz34_0 : w8.cell? ⟨gb104, 0, none⟩ = some (.int .u8 a0_0) := (blk_cell BK104.out 0).trans rfl
                        have hcz34_1 : w8.cell? ⟨gb104, 1, none⟩ = some (.int .u8 a0_1) := (blk_cell BK104.out 1).trans rfl
                        have hcz34_2 : w8.cell? ⟨gb104, 2, none⟩ = some (.int .u8 a0_2) := (blk_cell BK104.out 2).trans rfl
                        have hcz34_3 : w8.cell? ⟨gb104, 3, none⟩ = some (.int .u8 a0_3) := (blk_cell BK104.out 3).trans rfl
                        have hcz34_4 : w8.cell? ⟨gb104, 4, none⟩ = some (.int .i32 a0_4) := (blk_cell BK104.out 4).trans rfl
                        have hfz34_0 := blk_frozen BK104.out 0
                        have hfz34_1 := blk_frozen BK104.out 1
                        have hfz34_2 := blk_frozen BK104.out 2
                        have hfz34_3 := blk_frozen BK104.out 3
                        have hfz34_4 := blk_frozen BK104.out 4
                        go_wp2
                        go_meet
                        case rel => exact ⟨_, (false), (by first | rfl | (simp; done) | (simp [*]; done)), H', ⟨by first | omega | exact Nat.le_refl _⟩, ⟨by (with_reducible repeat (first | refine blk_drewN ?_ _ | refine blk_drew ?_ | refine blk_alloc ?_ _)); exact BK104.out⟩, ⟨by repeat (first | (with_reducible first | exact HB.out | apply below_alloc | apply pw_below_drewN | apply below_drew1 | refine below_set ?_ GE104.out) | exact HB.out)⟩⟩
                      · replace c33 := Bool.eq_false_iff.mpr c33
                        subst c33
                        have H1 : (isa_Enc.j0 k false (a0_4 != 0) a0_0 a0_1 a0_2 a0_3 a0_4) = some (r1, r2) := by rw [if_neg (show ¬ (false = true) by decide)] at H; exact H
                        clear H
                        have H := H1
                        clear H1
                        have H' := Aside0.mk H
                        clear H
                        have hcz35_0 : w8.cell? ⟨gb104, 0, none⟩ = some (.int .u8 a0_0) := (blk_cell BK104.out 0).trans rfl
                        have hcz35_1 : w8.cell? ⟨gb104, 1, none⟩ = some (.int .u8 a0_1) := (blk_cell BK104.out 1).trans rfl
                        have hcz35_2 : w8.cell? ⟨gb104, 2, none⟩ = some (.int .u8 a0_2) := (blk_cell BK104.out 2).trans rfl
                        have hcz35_3 : w8.cell? ⟨gb104, 3, none⟩ = some (.int .u8 a0_3) := (blk_cell BK104.out 3).trans rfl
                        have hcz35_4 : w8.cell? ⟨gb104, 4, none⟩ = some (.int .i32 a0_4) := (blk_cell BK104.out 4).trans rfl
                        have hfz35_0 := blk_frozen BK104.out 0
                        have hfz35_1 := blk_frozen BK104.out 1
                        have hfz35_2 := blk_frozen BK104.out 2
                        have hfz35_3 := blk_frozen BK104.out 3
                        have hfz35_4 := blk_frozen BK104.out 4
                        go_wp2
                        go_meet
                        case rel => exact ⟨_, ((a0_4 != 0)), (by first | rfl | (simp; done) | (simp [*]; done)), H', ⟨by first | omega | exact Nat.le_refl _⟩, ⟨by (with_reducible repeat (first | refine blk_drewN ?_ _ | refine blk_drew ?_ | refine blk_alloc ?_ _)); exact BK104.out⟩, ⟨by repeat (first | (with_reducible first | exact HB.out | apply below_alloc | apply pw_below_drewN | apply below_drew1 | refine below_set ?_ GE104.out) | exact HB.out)⟩⟩
                    · rw [if_neg c32] at H
                      have c32b0 : (a0_3 == 0) = false := beq_eq_false_iff_ne.mpr c32
                      have c32b1 : (a0_3 != 0) = true := bne_iff_ne.mpr c32
                      have H' := Aside0.mk H
                      clear H
                      have hcz36_0 : w8.cell? ⟨gb104, 0, none⟩ = some (.int .u8 a0_0) := (blk_cell BK104.out 0).trans rfl
                      have hcz36_1 : w8.cell? ⟨gb104, 1, none⟩ = some (.int .u8 a0_1) := (blk_cell BK104.out 1).trans rfl
                      have hcz36_2 : w8.cell? ⟨gb104, 2, none⟩ = some (.int .u8 a0_2) := (blk_cell BK104.out 2).trans rfl
                      have hcz36_3 : w8.cell? ⟨gb104, 3, none⟩ = some (.int .u8 a0_3) := (blk_cell BK104.out 3).trans rfl
                      have hcz36_4 : w8.cell? ⟨gb104, 4, none⟩ = some (.int .i32 a0_4) := (blk_cell BK104.out 4).trans rfl
                      have hfz36_0 := blk_frozen BK104.out 0
                      have hfz36_1 := blk_frozen BK104.out 1
                      have hfz36_2 := blk_frozen BK104.out 2
                      have hfz36_3 := blk_frozen BK104.out 3
                      have hfz36_4 := blk_frozen BK104.out 4
                      go_wp2
                      go_meet
                      case rel => exact ⟨_, (true), (by first | rfl | (simp; done) | (simp [*]; done)), H', ⟨by first | omega | exact Nat.le_refl _⟩, ⟨by (with_reducible repeat (first | refine blk_drewN ?_ _ | refine blk_drew ?_ | refine blk_alloc ?_ _)); exact BK104.out⟩, ⟨by repeat (first | (with_reducible first | exact HB.out | apply below_alloc | apply pw_below_drewN | apply below_drew1 | refine below_set ?_ GE104.out) | exact HB.out)⟩⟩
                · rw [if_neg c27] at H
                  have c27b0 : (a0_2 == 0) = false := beq_eq_false_iff_ne.mpr c27
                  have c27b1 : (a0_2 != 0) = true := bne_iff_ne.mpr c27
                  have H' := Aside0.mk H
                  clear H
                  have hcz37_0 : w8.cell? ⟨gb104, 0, none⟩ = some (.int .u8 a0_0) := (blk_cell BK104.out 0).trans rfl
                  have hcz37_1 : w8.cell? ⟨gb104, 1, none⟩ = some (.int .u8 a0_1) := (blk_cell BK104.out 1).trans rfl
                  have hcz37_2 : w8.cell? ⟨gb104, 2, none⟩ = some (.int .u8 a0_2) := (blk_cell BK104.out 2).trans rfl
                  have hcz37_3 : w8.cell? ⟨gb104, 3, none⟩ = some (.int .u8 a0_3) := (blk_cell BK104.out 3).trans rfl
                  have hcz37_4 : w8.cell? ⟨gb104, 4, none⟩ = some (.int .i32 a0_4) := (blk_cell BK104.out 4).trans rfl
                  have hfz37_0 := blk_frozen BK104.out 0
                  have hfz37_1 := blk_frozen BK104.out 1
                  have hfz37_2 := blk_frozen BK104.out 2
                  have hfz37_3 := blk_frozen BK104.out 3
                  have hfz37_4 := blk_frozen BK104.out 4
                  go_wp2
                  go_meet
                  case rel => exact ⟨_, (true), (by first | rfl | (simp; done) | (simp [*]; done)), H', ⟨by first | omega | exact Nat.le_refl _⟩, ⟨by (with_reducible repeat (first | refine blk_drewN ?_ _ | refine blk_drew ?_ | refine blk_alloc ?_ _)); exact BK104.out⟩, ⟨by repeat (first | (with_reducible first | exact HB.out | apply below_alloc | apply pw_below_drewN | apply below_drew1 | refine below_set ?_ GE104.out) | exact HB.out)⟩⟩
            · replace c16 := Bool.eq_false_iff.mpr c16
              subst c16
              have H1 : (if a0_1 = 0 then (if t107 = true then (if t108 = true then (if t109 = true then (isa_Enc.j0 k t109 false a0_0 a0_1 a0_2 a0_3 a0_4) else (isa_Enc.j0 k t109 (a0_4 != 0) a0_0 a0_1 a0_2 a0_3 a0_4)) else (if a0_3 = 0 then (if t109 = true then (isa_Enc.j0 k t109 false a0_0 a0_1 a0_2 a0_3 a0_4) else (isa_Enc.j0 k t109 (a0_4 != 0) a0_0 a0_1 a0_2 a0_3 a0_4)) else (isa_Enc.j0 k t109 true a0_0 a0_1 a0_2 a0_3 a0_4))) else (if a0_2 = 0 then (if t108 = true then (if t109 = true then (isa_Enc.j0 k t109 false a0_0 a0_1 a0_2 a0_3 a0_4) else (isa_Enc.j0 k t109 (a0_4 != 0) a0_0 a0_1 a0_2 a0_3 a0_4)) else (if a0_3 = 0 then (if t109 = true then (isa_Enc.j0 k t109 false a0_0 a0_1 a0_2 a0_3 a0_4) else (isa_Enc.j0 k t109 (a0_4 != 0) a0_0 a0_1 a0_2 a0_3 a0_4)) else (isa_Enc.j0 k t109 true a0_0 a0_1 a0_2 a0_3 a0_4))) else (isa_Enc.j0 k t109 true a0_0 a0_1 a0_2 a0_3 a0_4))) else (isa_Enc.j0 k t109 true a0_0 a0_1 a0_2 a0_3 a0_4)) = some (r1, r2) := by rw [if_neg (show ¬ (false = true) by decide)] at H; exact H
              clear H
              have H := H1
              clear H1
              by_cases c38 : a0_1 = 0
              · rw [if_pos c38] at H
                have c38b0 : (a0_1 == 0) = true := beq_iff_eq.mpr c38
                have c38b1 : (a0_1 != 0) = false := bne_eq_false_iff_eq.mpr c38
                clear c38
                by_cases c39 : t107 = true
                · subst c39
                  have H1 : (if t108 = true then (if t109 = true then (isa_Enc.j0 k t109 false a0_0 a0_1 a0_2 a0_3 a0_4) else (isa_Enc.j0 k t109 (a0_4 != 0) a0_0 a0_1 a0_2 a0_3 a0_4)) else (if a0_3 = 0 then (if t109 = true then (isa_Enc.j0 k t109 false a0_0 a0_1 a0_2 a0_3 a0_4) else (isa_Enc.j0 k t109 (a0_4 != 0) a0_0 a0_1 a0_2 a0_3 a0_4)) else (isa_Enc.j0 k t109 true a0_0 a0_1 a0_2 a0_3 a0_4))) = some (r1, r2) := by rw [if_pos rfl] at H; exact H
                  clear H
                  have H := H1
                  clear H1
                  by_cases c40 : t108 = true
                  · subst c40
                    have H1 : (if t109 = true then (isa_Enc.j0 k t109 false a0_0 a0_1 a0_2 a0_3 a0_4) else (isa_Enc.j0 k t109 (a0_4 != 0) a0_0 a0_1 a0_2 a0_3 a0_4)) = some (r1, r2) := by rw [if_pos rfl] at H; exact H
                    clear H
                    have H := H1
                    clear H1
                    by_cases c41 : t109 = true
                    · subst c41
                      have H1 : (isa_Enc.j0 k true false a0_0 a0_1 a0_2 a0_3 a0_4) = some (r1, r2) := by rw [if_pos rfl] at H; exact H
                      clear H
                      have H := H1
                      clear H1
                      have H' := Aside0.mk H
                      clear H
                      have hcz42_0 : w8.cell? ⟨gb104, 0, none⟩ = some (.int .u8 a0_0) := (blk_cell BK104.out 0).trans rfl
                      have hcz42_1 : w8.cell? ⟨gb104, 1, none⟩ = some (.int .u8 a0_1) := (blk_cell BK104.out 1).trans rfl
                      have hcz42_2 : w8.cell? ⟨gb104, 2, none⟩ = some (.int .u8 a0_2) := (blk_cell BK104.out 2).trans rfl
                      have hcz42_3 : w8.cell? ⟨gb104, 3, none⟩ = some (.int .u8 a0_3) := (blk_cell BK104.out 3).trans rfl
                      have hcz42_4 : w8.cell? ⟨gb104, 4, none⟩ = some (.int .i32 a0_4) := (blk_cell BK104.out 4).trans rfl
                      have hfz42_0 := blk_frozen BK104.out 0
                      have hfz42_1 := blk_frozen BK104.out 1
                      have hfz42_2 := blk_frozen BK104.out 2
                      have hfz42_3 := blk_frozen BK104.out 3
                      have hfz42_4 := blk_frozen BK104.out 4
                      go_wp2
                      go_meet
                      case rel => exact ⟨_, (false), (by first | rfl | (simp; done) | (simp [*]; done)), H', ⟨by first | omega | exact Nat.le_refl _⟩, ⟨by (with_reducible repeat (first | refine blk_drewN ?_ _ | refine blk_drew ?_ | refine blk_alloc ?_ _)); exact BK104.out⟩, ⟨by repeat (first | (with_reducible first | exact HB.out | apply below_alloc | apply pw_below_drewN | apply below_drew1 | refine below_set ?_ GE104.out) | exact HB.out)⟩⟩
                    · replace c41 := Bool.eq_false_iff.mpr c41
                      subst c41
                      have H1 : (isa_Enc.j0 k false (a0_4 != 0) a0_0 a0_1 a0_2 a0_3 a0_4) = some (r1, r2) := by rw [if_neg (show ¬ (false = true) by decide)] at H; exact H
                      clear H
                      have H := H1
                      clear H1
                      have H' := Aside0.mk H
                      clear H
                      have hcz43_0 : w8.cell? ⟨gb104, 0, none⟩ = some (.int .u8 a0_0) := (blk_cell BK104.out 0).trans rfl
                      have hcz43_1 : w8.cell? ⟨gb104, 1, none⟩ = some (.int .u8 a0_1) := (blk_cell BK104.out 1).trans rfl
                      have hcz43_2 : w8.cell? ⟨gb104, 2, none⟩ = some (.int .u8 a0_2) := (blk_cell BK104.out 2).trans rfl
                      have hcz43_3 : w8.cell? ⟨gb104, 3, none⟩ = some (.int .u8 a0_3) := (blk_cell BK104.out 3).trans rfl
                      have hcz43_4 : w8.cell? ⟨gb104, 4, none⟩ = some (.int .i32 a0_4) := (blk_cell BK104.out 4).trans rfl
                      have hfz43_0 := blk_frozen BK104.out 0
                      have hfz43_1 := blk_frozen BK104.out 1
                      have hfz43_2 := blk_frozen BK104.out 2
                      have hfz43_3 := blk_frozen BK104.out 3
                      have hfz43_4 := blk_frozen BK104.out 4
                      go_wp2
                      go_meet
                      case rel => exact ⟨_, ((a0_4 != 0)), (by first | rfl | (simp; done) | (simp [*]; done)), H', ⟨by first | omega | exact Nat.le_refl _⟩, ⟨by (with_reducible repeat (first | refine blk_drewN ?_ _ | refine blk_drew ?_ | refine blk_alloc ?_ _)); exact BK104.out⟩, ⟨by repeat (first | (with_reducible first | exact HB.out | apply below_alloc | apply pw_below_drewN | apply below_drew1 | refine below_set ?_ GE104.out) | exact HB.out)⟩⟩
                  · replace c40 := Bool.eq_false_iff.mpr c40
                    subst c40
                    have H1 : (if a0_3 = 0 then (if t109 = true then (isa_Enc.j0 k t109 false a0_0 a0_1 a0_2 a0_3 a0_4) else (isa_Enc.j0 k t109 (a0_4 != 0) a0_0 a0_1 a0_2 a0_3 a0_4)) else (isa_Enc.j0 k t109 true a0_0 a0_1 a0_2 a0_3 a0_4)) = some (r1, r2) := by rw [if_neg (show ¬ (false = true) by decide)] at H; exact H
                    clear H
                    have H := H1
                    clear H1
                    by_cases c44 : a0_3 = 0
                    · rw [if_pos c44] at H
                      have c44b0 : (a0_3 == 0) = true := beq_iff_eq.mpr c44
                      have c44b1 : (a0_3 != 0) = false := bne_eq_false_iff_eq.mpr c44
                      clear c44
                      by_cases c45 : t109 = true
                      · subst c45
                        have H1 : (isa_Enc.j0 k true false a0_0 a0_1 a0_2 a0_3 a0_4) = some (r1, r2) := by rw [if_pos rfl] at H; exact H
                        clear H
                        have H := H1
                        clear H1
                        have H' := Aside0.mk H
                        clear H
                        have hcz46_0 : w8.cell? ⟨gb104, 0, none⟩ = some (.int .u8 a0_0) := (blk_cell BK104.out 0).trans rfl
                        have hcz46_1 : w8.cell? ⟨gb104, 1, none⟩ = some (.int .u8 a0_1) := (blk_cell BK104.out 1).trans rfl
                        have hcz46_2 : w8.cell? ⟨gb104, 2, none⟩ = some (.int .u8 a0_2) := (blk_cell BK104.out 2).trans rfl
                        have hcz46_3 : w8.cell? ⟨gb104, 3, none⟩ = some (.int .u8 a0_3) := (blk_cell BK104.out 3).trans rfl
                        have hcz46_4 : w8.cell? ⟨gb104, 4, none⟩ = some (.int .i32 a0_4) := (blk_cell BK104.out 4).trans rfl
                        have hfz46_0 := blk_frozen BK104.out 0
                        have hfz46_1 := blk_frozen BK104.out 1
                        have hfz46_2 := blk_frozen BK104.out 2
                        have hfz46_3 := blk_frozen BK104.out 3
                        have hfz46_4 := blk_frozen BK104.out 4
                        go_wp2
                        go_meet
                        case rel => exact ⟨_, (false), (by first | rfl | (simp; done) | (simp [*]; done)), H', ⟨by first | omega | exact Nat.le_refl _⟩, ⟨by (with_reducible repeat (first | refine blk_drewN ?_ _ | refine blk_drew ?_ | refine blk_alloc ?_ _)); exact BK104.out⟩, ⟨by repeat (first | (with_reducible first | exact HB.out | apply below_alloc | apply pw_below_drewN | apply below_drew1 | refine below_set ?_ GE104.out) | exact HB.out)⟩⟩
                      · replace c45 := Bool.eq_false_iff.mpr c45
                        subst c45
                        have H1 : (isa_Enc.j0 k false (a0_4 != 0) a0_0 a0_1 a0_2 a0_3 a0_4) = some (r1, r2) := by rw [if_neg (show ¬ (false = true) by decide)] at H; exact H
                        clear H
                        have H := H1
                        clear H1
                        have H' := Aside0.mk H
                        clear H
                        have hcz47_0 : w8.cell? ⟨gb104, 0, none⟩ = some (.int .u8 a0_0) := (blk_cell BK104.out 0).trans rfl
                        have hcz47_1 : w8.cell? ⟨gb104, 1, none⟩ = some (.int .u8 a0_1) := (blk_cell BK104.out 1).trans rfl
                        have hcz47_2 : w8.cell? ⟨gb104, 2, none⟩ = some (.int .u8 a0_2) := (blk_cell BK104.out 2).trans rfl
                        have hcz47_3 : w8.cell? ⟨gb104, 3, none⟩ = some (.int .u8 a0_3) := (blk_cell BK104.out 3).trans rfl
                        have hcz47_4 : w8.cell? ⟨gb104, 4, none⟩ = some (.int .i32 a0_4) := (blk_cell BK104.out 4).trans rfl
                        have hfz47_0 := blk_frozen BK104.out 0
                        have hfz47_1 := blk_frozen BK104.out 1
                        have hfz47_2 := blk_frozen BK104.out 2
                        have hfz47_3 := blk_frozen BK104.out 3
                        have hfz47_4 := blk_frozen BK104.out 4
                        go_wp2
                        go_meet
                        case rel => exact ⟨_, ((a0_4 != 0)), (by first | rfl | (simp; done) | (simp [*]; done)), H', ⟨by first | omega | exact Nat.le_refl _⟩, ⟨by (with_reducible repeat (first | refine blk_drewN ?_ _ | refine blk_drew ?_ | refine blk_alloc ?_ _)); exact BK104.out⟩, ⟨by repeat (first | (with_reducible first | exact HB.out | apply below_alloc | apply pw_below_drewN | apply below_drew1 | refine below_set ?_ GE104.out) | exact HB.out)⟩⟩
                    · rw [if_neg c44] at H
                      have c44b0 : (a0_3 == 0) = false := beq_eq_false_iff_ne.mpr c44
                      have c44b1 : (a0_3 != 0) = true := bne_iff_ne.mpr c44
                      have H' := Aside0.mk H
                      clear H
                      have hcz48_0 : w8.cell? ⟨gb104, 0, none⟩ = some (.int .u8 a0_0) := (blk_cell BK104.out 0).trans rfl
                      have hcz48_1 : w8.cell? ⟨gb104, 1, none⟩ = some (.int .u8 a0_1) := (blk_cell BK104.out 1).trans rfl
                      have hcz48_2 : w8.cell? ⟨gb104, 2, none⟩ = some (.int .u8 a0_2) := (blk_cell BK104.out 2).trans rfl
                      have hcz48_3 : w8.cell? ⟨gb104, 3, none⟩ = some (.int .u8 a0_3) := (blk_cell BK104.out 3).trans rfl
                      have hcz48_4 : w8.cell? ⟨gb104, 4, none⟩ = some (.int .i32 a0_4) := (blk_cell BK104.out 4).trans rfl
                      have hfz48_0 := blk_frozen BK104.out 0
                      have hfz48_1 := blk_frozen BK104.out 1
                      have hfz48_2 := blk_frozen BK104.out 2
                      have hfz48_3 := blk_frozen BK104.out 3
                      have hfz48_4 := blk_frozen BK104.out 4
                      go_wp2
                      go_meet
                      case rel => exact ⟨_, (true), (by first | rfl | (simp; done) | (simp [*]; done)), H', ⟨by first | omega | exact Nat.le_refl _⟩, ⟨by (with_reducible repeat (first | refine blk_drewN ?_ _ | refine blk_drew ?_ | refine blk_alloc ?_ _)); exact BK104.out⟩, ⟨by repeat (first | (with_reducible first | exact HB.out | apply below_alloc | apply pw_below_drewN | apply below_drew1 | refine below_set ?_ GE104.out) | exact HB.out)⟩⟩
                · replace c39 := Bool.eq_false_iff.mpr c39
                  subst c39
                  have H1 : (if a0_2 = 0 then (if t108 = true then (if t109 = true then (isa_Enc.j0 k t109 false a0_0 a0_1 a0_2 a0_3 a0_4) else (isa_Enc.j0 k t109 (a0_4 != 0) a0_0 a0_1 a0_2 a0_3 a0_4)) else (if a0_3 = 0 then (if t109 = true then (isa_Enc.j0 k t109 false a0_0 a0_1 a0_2 a0_3 a0_4) else (isa_Enc.j0 k t109 (a0_4 != 0) a0_0 a0_1 a0_2 a0_3 a0_4)) else (isa_Enc.j0 k t109 true a0_0 a0_1 a0_2 a0_3 a0_4))) else (isa_Enc.j0 k t109 true a0_0 a0_1 a0_2 a0_3 a0_4)) = some (r1, r2) := by rw [if_neg (show ¬ (false = true) by decide)] at H; exact H
                  clear H
                  have H := H1
                  clear H1
                  by_cases c49 : a0_2 = 0
                  · rw [if_pos c49] at H
                    have c49b0 : (a0_2 == 0) = true := beq_iff_eq.mpr c49
                    have c49b1 : (a0_2 != 0) = false := bne_eq_false_iff_eq.mpr c49
                    clear c49
                    by_cases c50 : t108 = true
                    · subst c50
                      have H1 : (if t109 = true then (isa_Enc.j0 k t109 false a0_0 a0_1 a0_2 a0_3 a0_4) else (isa_Enc.j0 k t109 (a0_4 != 0) a0_0 a0_1 a0_2 a0_3 a0_4)) = some (r1, r2) := by rw [if_pos rfl] at H; exact H
                      clear H
                      have H := H1
                      clear H1
                      by_cases c51 : t109 = true
                      · subst c51
                        have H1 : (isa_Enc.j0 k true false a0_0 a0_1 a0_2 a0_3 a0_4) = some (r1, r2) := by rw [if_pos rfl] at H; exact H
                        clear H
                        have H := H1
                        clear H1
                        have H' := Aside0.mk H
                        clear H
                        have hcz52_0 : w8.cell? ⟨gb104, 0, none⟩ = some (.int .u8 a0_0) := (blk_cell BK104.out 0).trans rfl
                        have hcz52_1 : w8.cell? ⟨gb104, 1, none⟩ = some (.int .u8 a0_1) := (blk_cell BK104.out 1).trans rfl
                        have hcz52_2 : w8.cell? ⟨gb104, 2, none⟩ = some (.int .u8 a0_2) := (blk_cell BK104.out 2).trans rfl
                        have hcz52_3 : w8.cell? ⟨gb104, 3, none⟩ = some (.int .u8 a0_3) := (blk_cell BK104.out 3).trans rfl
                        have hcz52_4 : w8.cell? ⟨gb104, 4, none⟩ = some (.int .i32 a0_4) := (blk_cell BK104.out 4).trans rfl
                        have hfz52_0 := blk_frozen BK104.out 0
                        have hfz52_1 := blk_frozen BK104.out 1
                        have hfz52_2 := blk_frozen BK104.out 2
                        have hfz52_3 := blk_frozen BK104.out 3
                        have hfz52_4 := blk_frozen BK104.out 4
                        go_wp2
                        go_meet
                        case rel => exact ⟨_, (false), (by first | rfl | (simp; done) | (simp [*]; done)), H', ⟨by first | omega | exact Nat.le_refl _⟩, ⟨by (with_reducible repeat (first | refine blk_drewN ?_ _ | refine blk_drew ?_ | refine blk_alloc ?_ _)); exact BK104.out⟩, ⟨by repeat (first | (with_reducible first | exact HB.out | apply below_alloc | apply pw_below_drewN | apply below_drew1 | refine below_set ?_ GE104.out) | exact HB.out)⟩⟩
                      · replace c51 := Bool.eq_false_iff.mpr c51
                        subst c51
                        have H1 : (isa_Enc.j0 k false (a0_4 != 0) a0_0 a0_1 a0_2 a0_3 a0_4) = some (r1, r2) := by rw [if_neg (show ¬ (false = true) by decide)] at H; exact H
                        clear H
                        have H := H1
                        clear H1
                        have H' := Aside0.mk H
                        clear H
                        have hcz53_0 : w8.cell? ⟨gb104, 0, none⟩ = some (.int .u8 a0_0) := (blk_cell BK104.out 0).trans rfl
                        have hcz53_1 : w8.cell? ⟨gb104, 1, none⟩ = some (.int .u8 a0_1) := (blk_cell BK104.out 1).trans rfl
                        have hcz53_2 : w8.cell? ⟨gb104, 2, none⟩ = some (.int .u8 a0_2) := (blk_cell BK104.out 2).trans rfl
                        have hcz53_3 : w8.cell? ⟨gb104, 3, none⟩ = some (.int .u8 a0_3) := (blk_cell BK104.out 3).trans rfl
                        have hcz53_4 : w8.cell? ⟨gb104, 4, none⟩ = some (.int .i32 a0_4) := (blk_cell BK104.out 4).trans rfl
                        have hfz53_0 := blk_frozen BK104.out 0
                        have hfz53_1 := blk_frozen BK104.out 1
                        have hfz53_2 := blk_frozen BK104.out 2
                        have hfz53_3 := blk_frozen BK104.out 3
                        have hfz53_4 := blk_frozen BK104.out 4
                        go_wp2
                        go_meet
                        case rel => exact ⟨_, ((a0_4 != 0)), (by first | rfl | (simp; done) | (simp [*]; done)), H', ⟨by first | omega | exact Nat.le_refl _⟩, ⟨by (with_reducible repeat (first | refine blk_drewN ?_ _ | refine blk_drew ?_ | refine blk_alloc ?_ _)); exact BK104.out⟩, ⟨by repeat (first | (with_reducible first | exact HB.out | apply below_alloc | apply pw_below_drewN | apply below_drew1 | refine below_set ?_ GE104.out) | exact HB.out)⟩⟩
                    · replace c50 := Bool.eq_false_iff.mpr c50
                      subst c50
                      have H1 : (if a0_3 = 0 then (if t109 = true then (isa_Enc.j0 k t109 false a0_0 a0_1 a0_2 a0_3 a0_4) else (isa_Enc.j0 k t109 (a0_4 != 0) a0_0 a0_1 a0_2 a0_3 a0_4)) else (isa_Enc.j0 k t109 true a0_0 a0_1 a0_2 a0_3 a0_4)) = some (r1, r2) := by rw [if_neg (show ¬ (false = true) by decide)] at H; exact H
                      clear H
                      have H := H1
                      clear H1
                      by_cases c54 : a0_3 = 0
                      · rw [if_pos c54] at H
                        have c54b0 : (a0_3 == 0) = true := beq_iff_eq.mpr c54
                        have c54b1 : (a0_3 != 0) = false := bne_eq_false_iff_eq.mpr c54
                        clear c54
                        by_cases c55 : t109 = true
                        · subst c55
                          have H1 : (isa_Enc.j0 k true false a0_0 a0_1 a0_2 a0_3 a0_4) = some (r1, r2) := by rw [if_pos rfl] at H; exact H
                          clear H
                          have H := H1
                          clear H1
                          have H' := Aside0.mk H
                          clear H
                          have hcz56_0 : w8.cell? ⟨gb104, 0, none⟩ = some (.int .u8 a0_0) := (blk_cell BK104.out 0).trans rfl
                          have hcz56_1 : w8.cell? ⟨gb104, 1, none⟩ = some (.int .u8 a0_1) := (blk_cell BK104.out 1).trans rfl
                          have hcz56_2 : w8.cell? ⟨gb104, 2, none⟩ = some (.int .u8 a0_2) := (blk_cell BK104.out 2).trans rfl
                          have hcz56_3 : w8.cell? ⟨gb104, 3, none⟩ = some (.int .u8 a0_3) := (blk_cell BK104.out 3).trans rfl
                          have hcz56_4 : w8.cell? ⟨gb104, 4, none⟩ = some (.int .i32 a0_4) := (blk_cell BK104.out 4).trans rfl
                          have hfz56_0 := blk_frozen BK104.out 0
                          have hfz56_1 := blk_frozen BK104.out 1
                          have hfz56_2 := blk_frozen BK104.out 2
                          have hfz56_3 := blk_frozen BK104.out 3
                          have hfz56_4 := blk_frozen BK104.out 4
                          go_wp2
                          go_meet
                          case rel => exact ⟨_, (false), (by first | rfl | (simp; done) | (simp [*]; done)), H', ⟨by first | omega | exact Nat.le_refl _⟩, ⟨by (with_reducible repeat (first | refine blk_drewN ?_ _ | refine blk_drew ?_ | refine blk_alloc ?_ _)); exact BK104.out⟩, ⟨by repeat (first | (with_reducible first | exact HB.out | apply below_alloc | apply pw_below_drewN | apply below_drew1 | refine below_set ?_ GE104.out) | exact HB.out)⟩⟩
                        · replace c55 := Bool.eq_false_iff.mpr c55
                          subst c55
                          have H1 : (isa_Enc.j0 k false (a0_4 != 0) a0_0 a0_1 a0_2 a0_3 a0_4) = some (r1, r2) := by rw [if_neg (show ¬ (false = true) by decide)] at H; exact H
                          clear H
                          have H := H1
                          clear H1
                          have H' := Aside0.mk H
                          clear H
                          have hcz57_0 : w8.cell? ⟨gb104, 0, none⟩ = some (.int .u8 a0_0) := (blk_cell BK104.out 0).trans rfl
                          have hcz57_1 : w8.cell? ⟨gb104, 1, none⟩ = some (.int .u8 a0_1) := (blk_cell BK104.out 1).trans rfl
                          have hcz57_2 : w8.cell? ⟨gb104, 2, none⟩ = some (.int .u8 a0_2) := (blk_cell BK104.out 2).trans rfl
                          have hcz57_3 : w8.cell? ⟨gb104, 3, none⟩ = some (.int .u8 a0_3) := (blk_cell BK104.out 3).trans rfl
                          have hcz57_4 : w8.cell? ⟨gb104, 4, none⟩ = some (.int .i32 a0_4) := (blk_cell BK104.out 4).trans rfl
                          have hfz57_0 := blk_frozen BK104.out 0
                          have hfz57_1 := blk_frozen BK104.out 1
                          have hfz57_2 := blk_frozen BK104.out 2
                          have hfz57_3 := blk_frozen BK104.out 3
                          have hfz57_4 := blk_frozen BK104.out 4
                          go_wp2
                          go_meet
                          case rel => exact ⟨_, ((a0_4 != 0)), (by first | rfl | (simp; done) | (simp [*]; done)), H', ⟨by first | omega | exact Nat.le_refl _⟩, ⟨by (with_reducible repeat (first | refine blk_drewN ?_ _ | refine blk_drew ?_ | refine blk_alloc ?_ _)); exact BK104.out⟩, ⟨by repeat (first | (with_reducible first | exact HB.out | apply below_alloc | apply pw_below_drewN | apply below_drew1 | refine below_set ?_ GE104.out) | exact HB.out)⟩⟩
                      · rw [if_neg c54] at H
                        have c54b0 : (a0_3 == 0) = false := beq_eq_false_iff_ne.mpr c54
                        have c54b1 : (a0_3 != 0) = true := bne_iff_ne.mpr c54
                        have H' := Aside0.mk H
                        clear H
                        have hcz58_0 : w8.cell? ⟨gb104, 0, none⟩ = some (.int .u8 a0_0) := (blk_cell BK104.out 0).trans rfl
                        have hcz58_1 : w8.cell? ⟨gb104, 1, none⟩ = some (.int .u8 a0_1) := (blk_cell BK104.out 1).trans rfl
                        have hcz58_2 : w8.cell? ⟨gb104, 2, none⟩ = some (.int .u8 a0_2) := (blk_cell BK104.out 2).trans rfl
                        have hcz58_3 : w8.cell? ⟨gb104, 3, none⟩ = some (.int .u8 a0_3) := (blk_cell BK104.out 3).trans rfl
                        have hcz58_4 : w8.cell? ⟨gb104, 4, none⟩ = some (.int .i32 a0_4) := (blk_cell BK104.out 4).trans rfl
                        have hfz58_0 := blk_frozen BK104.out 0
                        have hfz58_1 := blk_frozen BK104.out 1
                        have hfz58_2 := blk_frozen BK104.out 2
                        have hfz58_3 := blk_frozen BK104.out 3
                        have hfz58_4 := blk_frozen BK104.out 4
                        go_wp2
                        go_meet
                        case rel => exact ⟨_, (true), (by first | rfl | (simp; done) | (simp [*]; done)), H', ⟨by first | omega | exact Nat.le_refl _⟩, ⟨by (with_reducible repeat (first | refine blk_drewN ?_ _ | refine blk_drew ?_ | refine blk_alloc ?_ _)); exact BK104.out⟩, ⟨by repeat (first | (with_reducible first | exact HB.out | apply below_alloc | apply pw_below_drewN | apply below_drew1 | refine below_set ?_ GE104.out) | exact HB.out)⟩⟩
                  · rw [if_neg c49] at H
                    have c49b0 : (a0_2 == 0) = false := beq_eq_false_iff_ne.mpr c49
                    have c49b1 : (a0_2 != 0) = true := bne_iff_ne.mpr c49
                    have H' := Aside0.mk H
                    clear H
                    have hcz59_0 : w8.cell? ⟨gb104, 0, none⟩ = some (.int .u8 a0_0) := (blk_cell BK104.out 0).trans rfl
                    have hcz59_1 : w8.cell? ⟨gb104, 1, none⟩ = some (.int .u8 a0_1) := (blk_cell BK104.out 1).trans rfl
                    have hcz59_2 : w8.cell? ⟨gb104, 2, none⟩ = some (.int .u8 a0_2) := (blk_cell BK104.out 2).trans rfl
                    have hcz59_3 : w8.cell? ⟨gb104, 3, none⟩ = some (.int .u8 a0_3) := (blk_cell BK104.out 3).trans rfl
                    have hcz59_4 : w8.cell? ⟨gb104, 4, none⟩ = some (.int .i32 a0_4) := (blk_cell BK104.out 4).trans rfl
                    have hfz59_0 := blk_frozen BK104.out 0
                    have hfz59_1 := blk_frozen BK104.out 1
                    have hfz59_2 := blk_frozen BK104.out 2
                    have hfz59_3 := blk_frozen BK104.out 3
                    have hfz59_4 := blk_frozen BK104.out 4
                    go_wp2
                    go_meet
                    case rel => exact ⟨_, (true), (by first | rfl | (simp; done) | (simp [*]; done)), H', ⟨by first | omega | exact Nat.le_refl _⟩, ⟨by (with_reducible repeat (first | refine blk_drewN ?_ _ | refine blk_drew ?_ | refine blk_alloc ?_ _)); exact BK104.out⟩, ⟨by repeat (first | (with_reducible first | exact HB.out | apply below_alloc | apply pw_below_drewN | apply below_drew1 | refine below_set ?_ GE104.out) | exact HB.out)⟩⟩
              · rw [if_neg c38] at H
                have c38b0 : (a0_1 == 0) = false := beq_eq_false_iff_ne.mpr c38
                have c38b1 : (a0_1 != 0) = true := bne_iff_ne.mpr c38
                have H' := Aside0.mk H
                clear H
                have hcz60_0 : w8.cell? ⟨gb104, 0, none⟩ = some (.int .u8 a0_0) := (blk_cell BK104.out 0).trans rfl
                have hcz60_1 : w8.cell? ⟨gb104, 1, none⟩ = some (.int .u8 a0_1) := (blk_cell BK104.out 1).trans rfl
                have hcz60_2 : w8.cell? ⟨gb104, 2, none⟩ = some (.int .u8 a0_2) := (blk_cell BK104.out 2).trans rfl
                have hcz60_3 : w8.cell? ⟨gb104, 3, none⟩ = some (.int .u8 a0_3) := (blk_cell BK104.out 3).trans rfl
                have hcz60_4 : w8.cell? ⟨gb104, 4, none⟩ = some (.int .i32 a0_4) := (blk_cell BK104.out 4).trans rfl
                have hfz60_0 := blk_frozen BK104.out 0
                have hfz60_1 := blk_frozen BK104.out 1
                have hfz60_2 := blk_frozen BK104.out 2
                have hfz60_3 := blk_frozen BK104.out 3
                have hfz60_4 := blk_frozen BK104.out 4
                go_wp2
                go_meet
                case rel => exact ⟨_, (true), (by first | rfl | (simp; done) | (simp [*]; done)), H', ⟨by first | omega | exact Nat.le_refl _⟩, ⟨by (with_reducible repeat (first | refine blk_drewN ?_ _ | refine blk_drew ?_ | refine blk_alloc ?_ _)); exact BK104.out⟩, ⟨by repeat (first | (with_reducible first | exact HB.out | apply below_alloc | apply pw_below_drewN | apply below_drew1 | refine below_set ?_ GE104.out) | exact HB.out)⟩⟩
    case rest =>
      clear HC7
      try clear c1
      try clear c2
      try clear p2
      try clear c3
      try clear c4
      try clear c5
      try clear c14
      try clear c14b0
      try clear c16
      try clear c17
      try clear c18
      try clear c19
      try clear c22
      try clear c22b0
      try clear c22b1
      try clear c23
      try clear c27
      try clear c27b0
      try clear c27b1
      try clear c28
      try clear c29
      try clear c32
      try clear c32b0
      try clear c32b1
      try clear c33
      try clear c38
      try clear c38b0
      try clear c38b1
      try clear c39
      try clear c40
      try clear c41
      try clear c44
      try clear c44b0
      try clear c44b1
      try clear c45
      try clear c49
      try clear c49b0
      try clear c49b1
      try clear c50
      try clear c51
      try clear c54
      try clear c54b0
      try clear c54b1
      try clear c55
      try clear hcz15_0
      try clear hcz15_1
      try clear hcz15_2
      try clear hcz15_3
      try clear hcz15_4
      try clear hcz20_0
      try clear hcz20_1
      try clear hcz20_2
      try clear hcz20_3
      try clear hcz20_4
      try clear hcz21_0
      try clear hcz21_1
      try clear hcz21_2
      try clear hcz21_3
      try clear hcz21_4
      try clear hcz24_0
      try clear hcz24_1
      try clear hcz24_2
      try clear hcz24_3
      try clear hcz24_4
      try clear hcz25_0
      try clear hcz25_1
      try clear hcz25_2
      try clear hcz25_3
      try clear hcz25_4
      try clear hcz26_0
      try clear hcz26_1
      try clear hcz26_2
      try clear hcz26_3
      try clear hcz26_4
      try clear hcz30_0
      try clear hcz30_1
      try clear hcz30_2
      try clear hcz30_3
      try clear hcz30_4
      try clear hcz31_0
      try clear hcz31_1
      try clear hcz31_2
      try clear hcz31_3
      try clear hcz31_4
      try clear hcz34_0
      try clear hcz34_1
      try clear hcz34_2
      try clear hcz34_3
      try clear hcz34_4
      try clear hcz35_0
      try clear hcz35_1
      try clear hcz35_2
      try clear hcz35_3
      try clear hcz35_4
      try clear hcz36_0
      try clear hcz36_1
      try clear hcz36_2
      try clear hcz36_3
      try clear hcz36_4
      try clear hcz37_0
      try clear hcz37_1
      try clear hcz37_2
      try clear hcz37_3
      try clear hcz37_4
      try clear hcz42_0
      try clear hcz42_1
      try clear hcz42_2
      try clear hcz42_3
      try clear hcz42_4
      try clear hcz43_0
      try clear hcz43_1
      try clear hcz43_2
      try clear hcz43_3
      try clear hcz43_4
      try clear hcz46_0
      try clear hcz46_1
      try clear hcz46_2
      try clear hcz46_3
      try clear hcz46_4
      try clear hcz47_0
      try clear hcz47_1
      try clear hcz47_2
      try clear hcz47_3
      try clear hcz47_4
      try clear hcz48_0
      try clear hcz48_1
      try clear hcz48_2
      try clear hcz48_3
      try clear hcz48_4
      try clear hcz52_0
      try clear hcz52_1
      try clear hcz52_2
      try clear hcz52_3
      try clear hcz52_4
      try clear hcz53_0
      try clear hcz53_1
      try clear hcz53_2
      try clear hcz53_3
      try clear hcz53_4
      try clear hcz56_0
      try clear hcz56_1
      try clear hcz56_2
      try clear hcz56_3
      try clear hcz56_4
      try clear hcz57_0
      try clear hcz57_1
      try clear hcz57_2
      try clear hcz57_3
      try clear hcz57_4
      try clear hcz58_0
      try clear hcz58_1
      try clear hcz58_2
      try clear hcz58_3
      try clear hcz58_4
      try clear hcz59_0
      try clear hcz59_1
      try clear hcz59_2
      try clear hcz59_3
      try clear hcz59_4
      try clear hcz60_0
      try clear hcz60_1
      try clear hcz60_2
      try clear hcz60_3
      try clear hcz60_4
      try clear hfz15_0
      try clear hfz15_1
      try clear hfz15_2
      try clear hfz15_3
      try clear hfz15_4
      try clear hfz20_0
      try clear hfz20_1
      try clear hfz20_2
      try clear hfz20_3
      try clear hfz20_4
      try clear hfz21_0
      try clear hfz21_1
      try clear hfz21_2
      try clear hfz21_3
      try clear hfz21_4
      try clear hfz24_0
      try clear hfz24_1
      try clear hfz24_2
      try clear hfz24_3
      try clear hfz24_4
      try clear hfz25_0
      try clear hfz25_1
      try clear hfz25_2
      try clear hfz25_3
      try clear hfz25_4
      try clear hfz26_0
      try clear hfz26_1
      try clear hfz26_2
      try clear hfz26_3
      try clear hfz26_4
      try clear hfz30_0
      try clear hfz30_1
      try clear hfz30_2
      try clear hfz30_3
      try clear hfz30_4
      try clear hfz31_0
      try clear hfz31_1
      try clear hfz31_2
      try clear hfz31_3
      try clear hfz31_4
      try clear hfz34_0
      try clear hfz34_1
      try clear hfz34_2
      try clear hfz34_3
      try clear hfz34_4
      try clear hfz35_0
      try clear hfz35_1
      try clear hfz35_2
      try clear hfz35_3
      try clear hfz35_4
      try clear hfz36_0
      try clear hfz36_1
      try clear hfz36_2
      try clear hfz36_3
      try clear hfz36_4
      try clear hfz37_0
      try clear hfz37_1
      try clear hfz37_2
      try clear hfz37_3
      try clear hfz37_4
      try clear hfz42_0
      try clear hfz42_1
      try clear hfz42_2
      try clear hfz42_3
      try clear hfz42_4
      try clear hfz43_0
      try clear hfz43_1
      try clear hfz43_2
      try clear hfz43_3
      try clear hfz43_4
      try clear hfz46_0
      try clear hfz46_1
      try clear hfz46_2
      try clear hfz46_3
      try clear hfz46_4
      try clear hfz47_0
      try clear hfz47_1
      try clear hfz47_2
      try clear hfz47_3
      try clear hfz47_4
      try clear hfz48_0
      try clear hfz48_1
      try clear hfz48_2
      try clear hfz48_3
      try clear hfz48_4
      try clear hfz52_0
      try clear hfz52_1
      try clear hfz52_2
      try clear hfz52_3
      try clear hfz52_4
      try clear hfz53_0
      try clear hfz53_1
      try clear hfz53_2
      try clear hfz53_3
      try clear hfz53_4
      try clear hfz56_0
      try clear hfz56_1
      try clear hfz56_2
      try clear hfz56_3
      try clear hfz56_4
      try clear hfz57_0
      try clear hfz57_1
      try clear hfz57_2
      try clear hfz57_3
      try clear hfz57_4
      try clear hfz58_0
      try clear hfz58_1
      try clear hfz58_2
      try clear hfz58_3
      try clear hfz58_4
      try clear hfz59_0
      try clear hfz59_1
      try clear hfz59_2
      try clear hfz59_3
      try clear hfz59_4
      try clear hfz60_0
      try clear hfz60_1
      try clear hfz60_2
      try clear hfz60_3
      try clear hfz60_4
      obtain ⟨kq, x70_6, rfl, HA, HJ6, BK104, HB⟩ := hcut
      cases kq with
      | zero => exact absurd HA.out (by simp [isa_Enc.j0])
      | succ kj6 =>
        have H := HA.out
        clear HA
        simp only [isa_Enc.j0] at H
        by_cases c61 : x70_6 = true
        · subst c61
          have H1 : (some (0, 1)) = some (r1, r2) := by rw [if_pos rfl] at H; exact H
          clear H
          have H := H1
          clear H1
          simp only [Option.some.injEq, Prod.mk.injEq] at H
          obtain ⟨rfl, rfl⟩ := H
          go_wp2
          go_ret2
          exact ⟨by first | rfl | (simp [errW_none, errW_some] <;> rfl) | (simp [*, errW_none, errW_some] <;> rfl), by repeat (first | (with_reducible first | exact HB.out | apply below_alloc | apply pw_below_drewN | apply below_drew1 | refine below_set ?_ GE104.out) | exact HB.out)⟩
        · replace c61 := Bool.eq_false_iff.mpr c61
          subst c61
          have H1 : (if t109 = true then ((isa_fits.f a0_0 a0_4).bind fun t110 => (isa_Enc.j1 kj6 t109 (!t110) a0_0 a0_1 a0_2 a0_3 a0_4)) else (isa_Enc.j1 kj6 t109 false a0_0 a0_1 a0_2 a0_3 a0_4)) = some (r1, r2) := by rw [if_neg (show ¬ (false = true) by decide)] at H; exact H
          clear H
          have H := H1
          clear H1
          have HC62 := Aside0.mk H
          clear H
          go_upto_region 7 with (fail)
          go_cut [79] (fun v79 wc => ∃ (kq : Nat) (x79_61 : Bool), v79 = .bool x79_61 ∧ Aside0 (isa_Enc.j1 kq t109 x79_61 a0_0 a0_1 a0_2 a0_3 a0_4 = some (r1, r2)) ∧ Aside0 (kq ≤ kj6) ∧ Aside0 (wc.heap[gb104]? = some (.cells #[.int .u8 a0_0, .int .u8 a0_1, .int .u8 a0_2, .int .u8 a0_3, .int .i32 a0_4] 48 (0, 0))) ∧ Aside0 (Below w.heap.size w wc))
          case first =>
            have H := HC62.out
            clear HC62
            by_cases c63 : t109 = true
            · subst c63
              have H1 : ((isa_fits.f a0_0 a0_4).bind fun t110 => (isa_Enc.j1 kj6 true (!t110) a0_0 a0_1 a0_2 a0_3 a0_4)) = some (r1, r2) := by rw [if_pos rfl] at H; exact H
              clear H
              have H := H1
              clear H1
              replace H := Option.bind_eq_some_iff.mp H
              obtain ⟨t110, A640, H⟩ := H
              replace H : (isa_Enc.j1 kj6 true (!t110) a0_0 a0_1 a0_2 a0_3 a0_4) = some (r1, r2) := H
              have A64 := Aside0.mk A640
              clear A640
              have H' := Aside0.mk H
              clear H
              have hcz65_0 : wc.cell? ⟨gb104, 0, none⟩ = some (.int .u8 a0_0) := (blk_cell BK104.out 0).trans rfl
              have hcz65_1 : wc.cell? ⟨gb104, 1, none⟩ = some (.int .u8 a0_1) := (blk_cell BK104.out 1).trans rfl
              have hcz65_2 : wc.cell? ⟨gb104, 2, none⟩ = some (.int .u8 a0_2) := (blk_cell BK104.out 2).trans rfl
              have hcz65_3 : wc.cell? ⟨gb104, 3, none⟩ = some (.int .u8 a0_3) := (blk_cell BK104.out 3).trans rfl
              have hcz65_4 : wc.cell? ⟨gb104, 4, none⟩ = some (.int .i32 a0_4) := (blk_cell BK104.out 4).trans rfl
              have hfz65_0 := blk_frozen BK104.out 0
              have hfz65_1 := blk_frozen BK104.out 1
              have hfz65_2 := blk_frozen BK104.out 2
              have hfz65_3 := blk_frozen BK104.out 3
              have hfz65_4 := blk_frozen BK104.out 4
              go_wp2_with (first | (go_at_call 23; (with_reducible refine (isa_fits.calls a0_0 a0_4 t110 _ A64.out).mono ?_); rintro e w' ⟨rfl, ⟨nd, rfl⟩⟩))
              go_meet
              case rel => exact ⟨_, (!t110), (by first | rfl | (simp; done) | (simp [*]; done)), H', ⟨by have := HJ6.out; first | omega | exact Nat.le_refl _⟩, ⟨by (with_reducible repeat (first | refine blk_drewN ?_ _ | refine blk_drew ?_ | refine blk_alloc ?_ _)); exact BK104.out⟩, ⟨by repeat (first | (with_reducible first | exact HB.out | apply below_alloc | apply pw_below_drewN | apply below_drew1 | refine below_set ?_ GE104.out) | exact HB.out)⟩⟩
            · replace c63 := Bool.eq_false_iff.mpr c63
              subst c63
              have H1 : (isa_Enc.j1 kj6 false false a0_0 a0_1 a0_2 a0_3 a0_4) = some (r1, r2) := by rw [if_neg (show ¬ (false = true) by decide)] at H; exact H
              clear H
              have H := H1
              clear H1
              have H' := Aside0.mk H
              clear H
              go_wp2
              go_meet
              case rel => exact ⟨_, (false), (by first | rfl | (simp; done) | (simp [*]; done)), H', ⟨by have := HJ6.out; first | omega | exact Nat.le_refl _⟩, ⟨by (with_reducible repeat (first | refine blk_drewN ?_ _ | refine blk_drew ?_ | refine blk_alloc ?_ _)); exact BK104.out⟩, ⟨by repeat (first | (with_reducible first | exact HB.out | apply below_alloc | apply pw_below_drewN | apply below_drew1 | refine below_set ?_ GE104.out) | exact HB.out)⟩⟩
          case rest =>
            clear HC62
            try clear c1
            try clear c2
            try clear p2
            try clear c3
            try clear c4
            try clear c5
            try clear c6
            try clear c14
            try clear c14b0
            try clear c16
            try clear c17
            try clear c18
            try clear c19
            try clear c22
            try clear c22b0
            try clear c22b1
            try clear c23
            try clear c27
            try clear c27b0
            try clear c27b1
            try clear c28
            try clear c29
            try clear c32
            try clear c32b0
            try clear c32b1
            try clear c33
            try clear c38
            try clear c38b0
            try clear c38b1
            try clear c39
            try clear c40
            try clear c41
            try clear c44
            try clear c44b0
            try clear c44b1
            try clear c45
            try clear c49
            try clear c49b0
            try clear c49b1
            try clear c50
            try clear c51
            try clear c54
            try clear c54b0
            try clear c54b1
            try clear c55
            try clear c61
            try clear c63
            try clear hcz15_0
            try clear hcz15_1
            try clear hcz15_2
            try clear hcz15_3
            try clear hcz15_4
            try clear hcz20_0
            try clear hcz20_1
            try clear hcz20_2
            try clear hcz20_3
            try clear hcz20_4
            try clear hcz21_0
            try clear hcz21_1
            try clear hcz21_2
            try clear hcz21_3
            try clear hcz21_4
            try clear hcz24_0
            try clear hcz24_1
            try clear hcz24_2
            try clear hcz24_3
            try clear hcz24_4
            try clear hcz25_0
            try clear hcz25_1
            try clear hcz25_2
            try clear hcz25_3
            try clear hcz25_4
            try clear hcz26_0
            try clear hcz26_1
            try clear hcz26_2
            try clear hcz26_3
            try clear hcz26_4
            try clear hcz30_0
            try clear hcz30_1
            try clear hcz30_2
            try clear hcz30_3
            try clear hcz30_4
            try clear hcz31_0
            try clear hcz31_1
            try clear hcz31_2
            try clear hcz31_3
            try clear hcz31_4
            try clear hcz34_0
            try clear hcz34_1
            try clear hcz34_2
            try clear hcz34_3
            try clear hcz34_4
            try clear hcz35_0
            try clear hcz35_1
            try clear hcz35_2
            try clear hcz35_3
            try clear hcz35_4
            try clear hcz36_0
            try clear hcz36_1
            try clear hcz36_2
            try clear hcz36_3
            try clear hcz36_4
            try clear hcz37_0
            try clear hcz37_1
            try clear hcz37_2
            try clear hcz37_3
            try clear hcz37_4
            try clear hcz42_0
            try clear hcz42_1
            try clear hcz42_2
            try clear hcz42_3
            try clear hcz42_4
            try clear hcz43_0
            try clear hcz43_1
            try clear hcz43_2
            try clear hcz43_3
            try clear hcz43_4
            try clear hcz46_0
            try clear hcz46_1
            try clear hcz46_2
            try clear hcz46_3
            try clear hcz46_4
            try clear hcz47_0
            try clear hcz47_1
            try clear hcz47_2
            try clear hcz47_3
            try clear hcz47_4
            try clear hcz48_0
            try clear hcz48_1
            try clear hcz48_2
            try clear hcz48_3
            try clear hcz48_4
            try clear hcz52_0
            try clear hcz52_1
            try clear hcz52_2
            try clear hcz52_3
            try clear hcz52_4
            try clear hcz53_0
            try clear hcz53_1
            try clear hcz53_2
            try clear hcz53_3
            try clear hcz53_4
            try clear hcz56_0
            try clear hcz56_1
            try clear hcz56_2
            try clear hcz56_3
            try clear hcz56_4
            try clear hcz57_0
            try clear hcz57_1
            try clear hcz57_2
            try clear hcz57_3
            try clear hcz57_4
            try clear hcz58_0
            try clear hcz58_1
            try clear hcz58_2
            try clear hcz58_3
            try clear hcz58_4
            try clear hcz59_0
            try clear hcz59_1
            try clear hcz59_2
            try clear hcz59_3
            try clear hcz59_4
            try clear hcz60_0
            try clear hcz60_1
            try clear hcz60_2
            try clear hcz60_3
            try clear hcz60_4
            try clear hcz65_0
            try clear hcz65_1
            try clear hcz65_2
            try clear hcz65_3
            try clear hcz65_4
            try clear hfz15_0
            try clear hfz15_1
            try clear hfz15_2
            try clear hfz15_3
            try clear hfz15_4
            try clear hfz20_0
            try clear hfz20_1
            try clear hfz20_2
            try clear hfz20_3
            try clear hfz20_4
            try clear hfz21_0
            try clear hfz21_1
            try clear hfz21_2
            try clear hfz21_3
            try clear hfz21_4
            try clear hfz24_0
            try clear hfz24_1
            try clear hfz24_2
            try clear hfz24_3
            try clear hfz24_4
            try clear hfz25_0
            try clear hfz25_1
            try clear hfz25_2
            try clear hfz25_3
            try clear hfz25_4
            try clear hfz26_0
            try clear hfz26_1
            try clear hfz26_2
            try clear hfz26_3
            try clear hfz26_4
            try clear hfz30_0
            try clear hfz30_1
            try clear hfz30_2
            try clear hfz30_3
            try clear hfz30_4
            try clear hfz31_0
            try clear hfz31_1
            try clear hfz31_2
            try clear hfz31_3
            try clear hfz31_4
            try clear hfz34_0
            try clear hfz34_1
            try clear hfz34_2
            try clear hfz34_3
            try clear hfz34_4
            try clear hfz35_0
            try clear hfz35_1
            try clear hfz35_2
            try clear hfz35_3
            try clear hfz35_4
            try clear hfz36_0
            try clear hfz36_1
            try clear hfz36_2
            try clear hfz36_3
            try clear hfz36_4
            try clear hfz37_0
            try clear hfz37_1
            try clear hfz37_2
            try clear hfz37_3
            try clear hfz37_4
            try clear hfz42_0
            try clear hfz42_1
            try clear hfz42_2
            try clear hfz42_3
            try clear hfz42_4
            try clear hfz43_0
            try clear hfz43_1
            try clear hfz43_2
            try clear hfz43_3
            try clear hfz43_4
            try clear hfz46_0
            try clear hfz46_1
            try clear hfz46_2
            try clear hfz46_3
            try clear hfz46_4
            try clear hfz47_0
            try clear hfz47_1
            try clear hfz47_2
            try clear hfz47_3
            try clear hfz47_4
            try clear hfz48_0
            try clear hfz48_1
            try clear hfz48_2
            try clear hfz48_3
            try clear hfz48_4
            try clear hfz52_0
            try clear hfz52_1
            try clear hfz52_2
            try clear hfz52_3
            try clear hfz52_4
            try clear hfz53_0
            try clear hfz53_1
            try clear hfz53_2
            try clear hfz53_3
            try clear hfz53_4
            try clear hfz56_0
            try clear hfz56_1
            try clear hfz56_2
            try clear hfz56_3
            try clear hfz56_4
            try clear hfz57_0
            try clear hfz57_1
            try clear hfz57_2
            try clear hfz57_3
            try clear hfz57_4
            try clear hfz58_0
            try clear hfz58_1
            try clear hfz58_2
            try clear hfz58_3
            try clear hfz58_4
            try clear hfz59_0
            try clear hfz59_1
            try clear hfz59_2
            try clear hfz59_3
            try clear hfz59_4
            try clear hfz60_0
            try clear hfz60_1
            try clear hfz60_2
            try clear hfz60_3
            try clear hfz60_4
            try clear hfz65_0
            try clear hfz65_1
            try clear hfz65_2
            try clear hfz65_3
            try clear hfz65_4
            try clear p2
            obtain ⟨kq, x79_61, rfl, HA, HJ61, BK104, HB⟩ := hcut
            cases kq with
            | zero => exact absurd HA.out (by simp [isa_Enc.j1])
            | succ kj61 =>
              have H := HA.out
              clear HA
              simp only [isa_Enc.j1] at H
              by_cases c66 : x79_61 = true
              · subst c66
                have H1 : (some (0, 2)) = some (r1, r2) := by rw [if_pos rfl] at H; exact H
                clear H
                have H := H1
                clear H1
                simp only [Option.some.injEq, Prod.mk.injEq] at H
                obtain ⟨rfl, rfl⟩ := H
                go_wp2
                go_ret2
                exact ⟨by first | rfl | (simp [errW_none, errW_some] <;> rfl) | (simp [*, errW_none, errW_some] <;> rfl), by repeat (first | (with_reducible first | exact HB.out | apply below_alloc | apply pw_below_drewN | apply below_drew1 | refine below_set ?_ GE104.out) | exact HB.out)⟩
              · replace c66 := Bool.eq_false_iff.mpr c66
                subst c66
                have H1 : (if t109 = true then (some (Go.bits .or .u32 (Go.bits .or .u32 (Go.bits .or .u32 (Go.bits .or .u32 (((IntKind.u32.wrap (a0_0)) * 67108864) % 4294967296) (((IntKind.u32.wrap (a0_1)) * 4194304) % 4294967296)) (((IntKind.u32.wrap (a0_2)) * 262144) % 4294967296)) (((IntKind.u32.wrap (a0_3)) * 16384) % 4294967296)) (IntKind.u32.wrap (IntKind.u16.wrap (a0_4))), 0)) else (some (Go.bits .or .u32 (Go.bits .or .u32 (Go.bits .or .u32 (((IntKind.u32.wrap (a0_0)) * 67108864) % 4294967296) (((IntKind.u32.wrap (a0_1)) * 4194304) % 4294967296)) (((IntKind.u32.wrap (a0_2)) * 262144) % 4294967296)) (((IntKind.u32.wrap (a0_3)) * 16384) % 4294967296), 0))) = some (r1, r2) := by rw [if_neg (show ¬ (false = true) by decide)] at H; exact H
                clear H
                have H := H1
                clear H1
                by_cases c67 : t109 = true
                · subst c67
                  have H1 : (some (Go.bits .or .u32 (Go.bits .or .u32 (Go.bits .or .u32 (Go.bits .or .u32 (((IntKind.u32.wrap (a0_0)) * 67108864) % 4294967296) (((IntKind.u32.wrap (a0_1)) * 4194304) % 4294967296)) (((IntKind.u32.wrap (a0_2)) * 262144) % 4294967296)) (((IntKind.u32.wrap (a0_3)) * 16384) % 4294967296)) (IntKind.u32.wrap (IntKind.u16.wrap (a0_4))), 0)) = some (r1, r2) := by rw [if_pos rfl] at H; exact H
                  clear H
                  have H := H1
                  clear H1
                  simp only [Option.some.injEq, Prod.mk.injEq] at H
                  obtain ⟨rfl, rfl⟩ := H
                  have hcz68_0 : wc.cell? ⟨gb104, 0, none⟩ = some (.int .u8 a0_0) := (blk_cell BK104.out 0).trans rfl
                  have hcz68_1 : wc.cell? ⟨gb104, 1, none⟩ = some (.int .u8 a0_1) := (blk_cell BK104.out 1).trans rfl
                  have hcz68_2 : wc.cell? ⟨gb104, 2, none⟩ = some (.int .u8 a0_2) := (blk_cell BK104.out 2).trans rfl
                  have hcz68_3 : wc.cell? ⟨gb104, 3, none⟩ = some (.int .u8 a0_3) := (blk_cell BK104.out 3).trans rfl
                  have hcz68_4 : wc.cell? ⟨gb104, 4, none⟩ = some (.int .i32 a0_4) := (blk_cell BK104.out 4).trans rfl
                  have hfz68_0 := blk_frozen BK104.out 0
                  have hfz68_1 := blk_frozen BK104.out 1
                  have hfz68_2 := blk_frozen BK104.out 2
                  have hfz68_3 := blk_frozen BK104.out 3
                  have hfz68_4 := blk_frozen BK104.out 4
                  go_wp2
                  go_ret2
                  exact ⟨by first | rfl | (simp [errW_none, errW_some] <;> rfl) | (simp [*, errW_none, errW_some] <;> rfl), by repeat (first | (with_reducible first | exact HB.out | apply below_alloc | apply pw_below_drewN | apply below_drew1 | refine below_set ?_ GE104.out) | exact HB.out)⟩
                · replace c67 := Bool.eq_false_iff.mpr c67
                  subst c67
                  have H1 : (some (Go.bits .or .u32 (Go.bits .or .u32 (Go.bits .or .u32 (((IntKind.u32.wrap (a0_0)) * 67108864) % 4294967296) (((IntKind.u32.wrap (a0_1)) * 4194304) % 4294967296)) (((IntKind.u32.wrap (a0_2)) * 262144) % 4294967296)) (((IntKind.u32.wrap (a0_3)) * 16384) % 4294967296), 0)) = some (r1, r2) := by rw [if_neg (show ¬ (false = true) by decide)] at H; exact H
                  clear H
                  have H := H1
                  clear H1
                  simp only [Option.some.injEq, Prod.mk.injEq] at H
                  obtain ⟨rfl, rfl⟩ := H
                  have hcz69_0 : wc.cell? ⟨gb104, 0, none⟩ = some (.int .u8 a0_0) := (blk_cell BK104.out 0).trans rfl
                  have hcz69_1 : wc.cell? ⟨gb104, 1, none⟩ = some (.int .u8 a0_1) := (blk_cell BK104.out 1).trans rfl
                  have hcz69_2 : wc.cell? ⟨gb104, 2, none⟩ = some (.int .u8 a0_2) := (blk_cell BK104.out 2).trans rfl
                  have hcz69_3 : wc.cell? ⟨gb104, 3, none⟩ = some (.int .u8 a0_3) := (blk_cell BK104.out 3).trans rfl
                  have hcz69_4 : wc.cell? ⟨gb104, 4, none⟩ = some (.int .i32 a0_4) := (blk_cell BK104.out 4).trans rfl
                  have hfz69_0 := blk_frozen BK104.out 0
                  have hfz69_1 := blk_frozen BK104.out 1
                  have hfz69_2 := blk_frozen BK104.out 2
                  have hfz69_3 := blk_frozen BK104.out 3
                  have hfz69_4 := blk_frozen BK104.out 4
                  go_wp2
                  go_ret2
                  exact ⟨by first | rfl | (simp [errW_none, errW_some] <;> rfl) | (simp [*, errW_none, errW_some] <;> rfl), by repeat (first | (with_reducible first | exact HB.out | apply below_alloc | apply pw_below_drewN | apply below_drew1 | refine below_set ?_ GE104.out) | exact HB.out)⟩
end Go.Proofs.YtiklcpacbclpnaaDoor.P
end
