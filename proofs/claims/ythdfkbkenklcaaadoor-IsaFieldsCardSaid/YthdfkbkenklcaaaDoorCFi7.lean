-- Printed for this claim and put together by wip/tools/prune.py.
import Derived.Test.YthdfkbkenklcaaaDoorCFi1
import Derived.Test.YthdfkbkenklcaaaDoorCFi2
import Derived.Test.YthdfkbkenklcaaaDoorCFi6
set_option linter.unusedVariables false
set_option linter.unusedSimpArgs false
section
namespace Go.Proofs.YthdfkbkenklcaaaDoor.P
section
abbrev zb1_PxF : Array Bool := #[false, false, false, false, false, false, false, false, false, false, false, false]
abbrev zb2_PxF : Array Bool := #[true, false, false, false, false, false, false, false, false, false, false, false]
abbrev zb3_PxF : Array Bool := #[true, true, false, false, false, false, false, false, false, false, false, false]
abbrev zb4_PxF : Array Bool := #[true, true, true, false, false, false, false, false, false, false, false, false]
abbrev zb5_PxF : Array Bool := #[true, true, true, true, false, false, false, false, false, false, false, false]
abbrev zb6_PxF : Array Bool := #[true, true, true, true, true, true, true, true, false, false, false, false]
abbrev zb7_PxF : Array Bool := #[true, true, true, true, true, true, true, false, false, false, false, false]
abbrev zb8_PxF : Array Bool := #[true, true, true, true, true, true, false, true, false, false, false, false]
abbrev zb9_PxF : Array Bool := #[true, true, true, true, true, false, true, true, false, false, false, false]
abbrev zb10_PxF : Array Bool := #[true, true, true, true, false, true, true, true, false, false, false, false]
abbrev zb11_PxF : Array Bool := #[true, true, true, true, true, true, false, false, false, false, false, false]
abbrev zb12_PxF : Array Bool := #[true, true, true, true, true, false, true, false, false, false, false, false]
abbrev zb13_PxF : Array Bool := #[true, true, true, true, true, false, false, true, false, false, false, false]
abbrev zb14_PxF : Array Bool := #[true, true, true, true, false, true, true, false, false, false, false, false]
abbrev zb15_PxF : Array Bool := #[true, true, true, true, false, true, false, true, false, false, false, false]
abbrev zb16_PxF : Array Bool := #[true, true, true, true, false, false, true, true, false, false, false, false]
abbrev zb17_PxF : Array Bool := #[true, true, true, true, true, false, false, false, false, false, false, false]
abbrev zb18_PxF : Array Bool := #[true, true, true, true, false, true, false, false, false, false, false, false]
abbrev zb19_PxF : Array Bool := #[true, true, true, true, false, false, true, false, false, false, false, false]
abbrev zb20_PxF : Array Bool := #[true, true, true, true, false, false, false, true, false, false, false, false]
abbrev zb21_PxF : Array Bool := #[true, true, true, true, true, true, true, true, true, false, false, false]
abbrev zb22_PxF : Array Bool := #[true, true, true, true, true, true, true, true, true, true, false, false]
abbrev zb23_PxF : Array Bool := #[true, true, true, true, true, true, true, true, true, true, true, false]
abbrev zb24_PxF : Array Bool := #[true, true, true, true, true, true, true, true, true, true, true, true]
open Go.RowKit Go.Proofs.YthdfkbkenklcaaaDoorW.PrintWords Go.Proofs.YthdfkbkenklcaaaDoorW.PrintLast Go.Proofs.YthdfkbkenklcaaaDoorW.PrintMore
attribute [local go_sem] isSome_setCell_eq max2_int min2_int max_two min_two max_three min_three max_four min_four
set_option linter.unusedVariables false
set_option linter.unusedSimpArgs false
attribute [local go_sem high] eqA23
def hibernaclelaw10_IsaFields.T6 : Bool × List (List Nat × List Nat) := (true, [([], []), ([], []), ([], []), ([], []), ([], []), ([], []), ([], []), ([], []), ([4, 0, 0, 4, 5, 6, 7], [0, 4]), ([5, 1, 8, 0, 1, 4, 5, 6, 7, 8], [1, 5]), ([6, 2, 9, 0, 1, 2, 4, 5, 6, 7, 8, 9], [2, 6]), ([7, 3, 10, 0, 1, 2, 3, 4, 5, 6, 7, 8, 9, 10], [3, 7])])
def hibernaclelaw10_IsaFields.B6 : List Nat := [0, 0, 0, 0, 0, 0, 0, 0, 241, 499, 1015, 2047]
theorem hibernaclelaw10_IsaFields.tab6 : rtab .any (opsOf Tryd.f7 6) = hibernaclelaw10_IsaFields.T6 := by kernel_rfl
theorem hibernaclelaw10_IsaFields.bits6 : waitsOk hibernaclelaw10_IsaFields.T6.2 hibernaclelaw10_IsaFields.B6 = true := by kernel_rfl
theorem gen_w {W : World} {P : World → Prop} (F : World → Prop) (hF : F W) (h : ∀ w, F w → P w) : P W := h W hF
set_option maxHeartbeats 80000000 in
set_option maxRecDepth 100000 in
theorem hibernaclelaw10_IsaFields.walk_ok (k : Nat) (a0_0 a0_1 a0_2 a0_3 a0_4 a1 a2 a3 a4 : Int) (t197 t203 t204 t205 t206 t207 t208 t209 t210 : Int) (w : World) (hL : Aside0 (Laid w)) (A6 : Aside0 (hibernaclelaw10_alive.f k = some true)) (A80 : Aside0 (isa_Enc.f k a0_0 a0_1 a0_2 a0_3 a0_4 = some (t197, 0)))
    (A10 : Aside0 (isa_Enc.f k a0_0 a1 a0_2 a0_3 a0_4 = some (t203, t204))) (A11 : Aside0 (isa_Enc.f k a0_0 a0_1 a2 a0_3 a0_4 = some (t205, t206))) (A12 : Aside0 (isa_Enc.f k a0_0 a0_1 a0_2 a3 a0_4 = some (t207, t208))) (A13 : Aside0 (isa_Enc.f k a0_0 a0_1 a0_2 a0_3 a4 = some (t209, t210)))
    (F1 : Aside0 (t204 = 0 → (Go.bits .andNot .u32 (Go.bits .xor .u32 t197 t203) 62914560) = 0 ∧ (Go.bits .and .u32 (t203 / 4194304) 15) = (a1 % 4294967296)))
    (F2 : Aside0 (t206 = 0 → (Go.bits .andNot .u32 (Go.bits .xor .u32 t197 t205) 3932160) = 0 ∧ (Go.bits .and .u32 (t205 / 262144) 15) = (a2 % 4294967296)))
    (F3 : Aside0 (t208 = 0 → (Go.bits .andNot .u32 (Go.bits .xor .u32 t197 t207) 245760) = 0))
    (F4 : Aside0 (t210 = 0 → (Go.bits .xor .u32 t197 t209) / 65536 = 0)) :
    Calls Tryd.prog 7 #[.agg #[.int .u8 a0_0, .int .u8 a0_1, .int .u8 a0_2, .int .u8 a0_3, .int .i32 a0_4], .int .u8 a1, .int .u8 a2, .int .u8 a3, .int .i32 a4] w fun e w' => e = .returned (.bool true) ∧ Below w.heap.size w w' := by
 have hu23 := Tryd.underlying23
 have HB := Aside0.mk (Below.refl w.heap.size w)
 obtain ⟨t198, ht198⟩ : ∃ t198 : Int, t198 = 0 := ⟨0, rfl⟩
 have c9b0 : (t198 == 0) = true := beq_iff_eq.mpr ht198
 have c9b1 : (t198 != 0) = false := bne_eq_false_iff_eq.mpr ht198
 have A8 : Aside0 (isa_Enc.f k a0_0 a0_1 a0_2 a0_3 a0_4 = some (t197, t198)) := ⟨by rw [ht198]; exact A80.out⟩
 clear A80 ht198
 go_enter Tryd.func7, Tryd.ntmps7
 try go_wp2_with (first | ((with_reducible refine gate_dst (N := 5) rfl ?_); refine box_event ?hg (N := 5) ?hd (cs := #[.int .u8 a0_0, .int .u8 a0_1, .int .u8 a0_2, .int .u8 a0_3, .int .i32 a0_4]) (t := 23) ?hr ?_; (case hd => rfl); (case hg => rfl); (case hr => first | (go_simp; done) | (go_simp; rfl)); intro gb195 hg w23 hbox hb; have n0_ := Aside0.mk (below_step (by repeat (first | (with_reducible first | exact HB.out | apply below_alloc | apply pw_below_drewN | apply below_drew1) | exact HB.out)) hb); have n1_ := Aside0.mk (hbox); have n2_ := Aside0.mk ((by rw [hg]; exact (below_size (by repeat (first | (with_reducible first | exact HB.out | apply below_alloc | apply pw_below_drewN | apply below_drew1) | exact HB.out))) : w.heap.size ≤ gb195)); have n3_ := Aside0.mk ((by rw [hg]; exact (below_size (by repeat (first | (with_reducible first | exact HB.out | apply below_alloc | apply pw_below_drewN | apply below_drew1) | exact HB.out))) : w.heap.size ≤ gb195)); clear HB; have HB := n0_; have BK195 := n1_; have GW195 := n2_; have GE195 := n3_; clear n0_ n1_ n2_ n3_; clear hb hbox hg) | ((with_reducible refine gate_callee (f := 10) rfl ?_); refine goesL_ (some 25) rfl rfl Tryd.func10 (by kernel_rfl) rfl #[] rfl (by (try simp only [List.map_toArray, List.map_cons, List.map_nil]); first | done | rfl | (simp only [List.length_drop, List.length_take]; rfl)) ?_; (with_reducible refine (hibernaclelaw10_alive.calls k  true _ (hL.laid (by repeat (first | (with_reducible first | exact HB.out | apply below_alloc | apply pw_below_drewN | apply below_drew1 | refine below_set ?_ GE195.out) | exact HB.out))) A6.out).mono ?_); rintro e w24 ⟨rfl, hb⟩; refine ⟨_, rfl, ?_⟩; have n0_ := Aside0.mk (blk_below (g := gb195) (o := .cells #[.int .u8 a0_0, .int .u8 a0_1, .int .u8 a0_2, .int .u8 a0_3, .int .i32 a0_4] 23 (0, 0)) (by (with_reducible repeat (first | refine blk_drewN ?_ _ | refine blk_drew ?_ | refine blk_alloc ?_ _)); exact BK195.out) hb); have n1_ := Aside0.mk (below_step (by repeat (first | (with_reducible first | exact HB.out | apply below_alloc | apply pw_below_drewN | apply below_drew1 | refine below_set ?_ GE195.out) | exact HB.out)) hb); clear BK195; clear HB; have BK195 := n0_; have HB := n1_; clear n0_ n1_; (try clear hb); (try clear hb2); (try clear hk); (try clear hi); have hcz25_0 : w24.cell? ⟨gb195, 0, none⟩ = some (.int .u8 a0_0) := (blk_cell BK195.out 0).trans rfl; have hcz25_1 : w24.cell? ⟨gb195, 1, none⟩ = some (.int .u8 a0_1) := (blk_cell BK195.out 1).trans rfl; have hcz25_2 : w24.cell? ⟨gb195, 2, none⟩ = some (.int .u8 a0_2) := (blk_cell BK195.out 2).trans rfl; have hcz25_3 : w24.cell? ⟨gb195, 3, none⟩ = some (.int .u8 a0_3) := (blk_cell BK195.out 3).trans rfl; have hcz25_4 : w24.cell? ⟨gb195, 4, none⟩ = some (.int .i32 a0_4) := (blk_cell BK195.out 4).trans rfl; have hfz25_0 := blk_frozen BK195.out 0; have hfz25_1 := blk_frozen BK195.out 1; have hfz25_2 := blk_frozen BK195.out 2; have hfz25_3 := blk_frozen BK195.out 3; have hfz25_4 := blk_frozen BK195.out 4) | ((with_reducible refine gate_callee (f := 11) rfl ?_); refine goesL_ (some 29) rfl rfl Tryd.func11 (by kernel_rfl) rfl #[.agg #[.int .u8 a0_0, .int .u8 a0_1, .int .u8 a0_2, .int .u8 a0_3, .int .i32 a0_4]] rfl (by (try simp only [List.map_toArray, List.map_cons, List.map_nil]); first | done | rfl | (simp only [List.length_drop, List.length_take]; rfl)) ?_; (with_reducible refine (isa_Enc.calls k a0_0 a0_1 a0_2 a0_3 a0_4 t197 t198 _ A8.out).mono ?_); rintro e w26 ⟨rfl, hb⟩; refine ⟨_, rfl, ?_⟩; have n0_ := Aside0.mk (blk_below (g := gb195) (o := .cells #[.int .u8 a0_0, .int .u8 a0_1, .int .u8 a0_2, .int .u8 a0_3, .int .i32 a0_4] 23 (0, 0)) (by (with_reducible repeat (first | refine blk_drewN ?_ _ | refine blk_drew ?_ | refine blk_alloc ?_ _)); exact BK195.out) hb); have n1_ := Aside0.mk (below_step (by repeat (first | (with_reducible first | exact HB.out | apply below_alloc | apply pw_below_drewN | apply below_drew1 | refine below_set ?_ GE195.out) | exact HB.out)) hb); clear BK195; clear HB; have BK195 := n0_; have HB := n1_; clear n0_ n1_; (try clear hb); (try clear hb2); (try clear hk); (try clear hi)))
 have n0_ := Aside0.mk (blk_drew BK195.out)
 have n1_ := Aside0.mk (below_drew1 HB.out)
 clear BK195
 clear HB
 have BK195 := n0_
 have HB := n1_
 clear n0_ n1_
 refine start_ (n := 12) (S := fun w' => w'.cell? ⟨gb195, 0, none⟩ = some (.int .u8 a0_0) ∧ w'.cell? ⟨gb195, 1, none⟩ = some (.int .u8 a0_1) ∧ w'.cell? ⟨gb195, 2, none⟩ = some (.int .u8 a0_2) ∧ w'.cell? ⟨gb195, 3, none⟩ = some (.int .u8 a0_3) ∧ w'.cell? ⟨gb195, 4, none⟩ = some (.int .i32 a0_4)) (ds := []) zb1_PxF (by kernel_rfl) rfl rfl ⟨(blk_cell BK195.out 0).trans rfl, (blk_cell BK195.out 1).trans rfl, (blk_cell BK195.out 2).trans rfl, (blk_cell BK195.out 3).trans rfl, (blk_cell BK195.out 4).trans rfl⟩ (fun hHeld => ?_); refine with_tabW hibernaclelaw10_IsaFields.tab6 hibernaclelaw10_IsaFields.bits6 (fun HT_ HW_ => ?_)
 generalize w26.drew = w27 at BK195 HB hHeld ⊢
 refine take_ (i := 0) (N := some 34) (v := ?_) (a' := ?_) zb2_PxF rfl rfl (take_ofW HT_.out HW_.out (by kernel_rfl)) (fun _ _ _ h => h) (Or.inl ⟨by rfl, ?_⟩) hHeld ?_ ?_
 rotate_left
 ·rintro w' ⟨s0, s1, s2, s3, s4⟩
  go_simp
  with_reducible rfl
 rotate_left
 ·simp only [Act.put, List.setIfInBounds_toArray, List.set_cons_zero, List.set_cons_succ, i64_w, i32_w]
  rfl
 refine take_ (i := 1) (N := some 35) (v := ?_) (a' := ?_) zb3_PxF rfl rfl (take_ofW HT_.out HW_.out (by kernel_rfl)) (fun _ _ _ h => h) (Or.inl ⟨by rfl, ?_⟩) hHeld ?_ ?_
 rotate_left
 ·rintro w' ⟨s0, s1, s2, s3, s4⟩
  go_simp
  with_reducible rfl
 rotate_left
 ·simp only [Act.put, List.setIfInBounds_toArray, List.set_cons_zero, List.set_cons_succ, i64_w, i32_w]
  rfl
 refine take_ (i := 2) (N := some 36) (v := ?_) (a' := ?_) zb4_PxF rfl rfl (take_ofW HT_.out HW_.out (by kernel_rfl)) (fun _ _ _ h => h) (Or.inl ⟨by rfl, ?_⟩) hHeld ?_ ?_
 rotate_left
 ·rintro w' ⟨s0, s1, s2, s3, s4⟩
  go_simp
  with_reducible rfl
 rotate_left
 ·simp only [Act.put, List.setIfInBounds_toArray, List.set_cons_zero, List.set_cons_succ, i64_w, i32_w]
  rfl
 refine take_ (i := 3) (N := some 37) (v := ?_) (a' := ?_) zb5_PxF rfl rfl (take_ofW HT_.out HW_.out (by kernel_rfl)) (fun _ _ _ h => h) (Or.inl ⟨by rfl, ?_⟩) hHeld ?_ ?_
 rotate_left
 ·rintro w' ⟨s0, s1, s2, s3, s4⟩
  go_simp
  with_reducible rfl
 rotate_left
 ·simp only [Act.put, List.setIfInBounds_toArray, List.set_cons_zero, List.set_cons_succ, i64_w, i32_w]
  rfl
 refine join_ (σ := Nat × Nat × Nat × Nat) 4 zb6_PxF (fun s_ => [(13, .pointer (some ⟨s_.1, 0, none⟩)), (14, .pointer (some ⟨s_.2.1, 0, none⟩)), (15, .pointer (some ⟨s_.2.2.1, 0, none⟩)), (16, .pointer (some ⟨s_.2.2.2, 0, none⟩))]) (fun s_ w' => (w'.cell? ⟨gb195, 0, none⟩ = some (.int .u8 a0_0) ∧ w'.cell? ⟨gb195, 1, none⟩ = some (.int .u8 a0_1) ∧ w'.cell? ⟨gb195, 2, none⟩ = some (.int .u8 a0_2) ∧ w'.cell? ⟨gb195, 3, none⟩ = some (.int .u8 a0_3) ∧ w'.cell? ⟨gb195, 4, none⟩ = some (.int .i32 a0_4)) ∧ (w'.heap[gb195]? = some (.cells #[.int .u8 a0_0, .int .u8 a0_1, .int .u8 a0_2, .int .u8 a0_3, .int .i32 a0_4] 23 (0, 0))) ∧ (w'.heap[s_.1]? = some (.cells #[.int .u8 0, .int .u8 0, .int .u8 0, .int .u8 0, .int .i32 0] 23 (0, 0))) ∧ (w'.heap[s_.2.1]? = some (.cells #[.int .u8 0, .int .u8 0, .int .u8 0, .int .u8 0, .int .i32 0] 23 (0, 0))) ∧ (w'.heap[s_.2.2.1]? = some (.cells #[.int .u8 0, .int .u8 0, .int .u8 0, .int .u8 0, .int .i32 0] 23 (0, 0))) ∧ (w'.heap[s_.2.2.2]? = some (.cells #[.int .u8 0, .int .u8 0, .int .u8 0, .int .u8 0, .int .i32 0] 23 (0, 0))) ∧ (w.heap.size ≤ s_.1) ∧ (w.heap.size ≤ s_.1) ∧ (gb195 ≠ s_.1) ∧ (s_.1 ≠ gb195) ∧ (s_.2.1 ≠ s_.1) ∧ (s_.1 ≠ s_.2.1) ∧ (s_.2.2.1 ≠ s_.1) ∧ (s_.1 ≠ s_.2.2.1) ∧ (s_.2.2.2 ≠ s_.1) ∧ (s_.1 ≠ s_.2.2.2) ∧ (w.heap.size ≤ s_.2.1) ∧ (w.heap.size ≤ s_.2.1) ∧ (gb195 ≠ s_.2.1) ∧ (s_.2.1 ≠ gb195) ∧ (s_.2.2.1 ≠ s_.2.1) ∧ (s_.2.1 ≠ s_.2.2.1) ∧ (s_.2.2.2 ≠ s_.2.1) ∧ (s_.2.1 ≠ s_.2.2.2) ∧ (w.heap.size ≤ s_.2.2.1) ∧ (w.heap.size ≤ s_.2.2.1) ∧ (gb195 ≠ s_.2.2.1) ∧ (s_.2.2.1 ≠ gb195) ∧ (s_.2.2.2 ≠ s_.2.2.1) ∧ (s_.2.2.1 ≠ s_.2.2.2) ∧ (w.heap.size ≤ s_.2.2.2) ∧ (w.heap.size ≤ s_.2.2.2) ∧ (gb195 ≠ s_.2.2.2) ∧ (s_.2.2.2 ≠ gb195) ∧ (Below w.heap.size w w')) ?_ ?_
 rotate_left
 ·intro hJ4_5_6_7
  refine join_ (σ := Nat × Nat × Nat) 5 zb7_PxF (fun s_ => [(13, .pointer (some ⟨s_.1, 0, none⟩)), (14, .pointer (some ⟨s_.2.1, 0, none⟩)), (15, .pointer (some ⟨s_.2.2, 0, none⟩))]) (fun s_ w' => (w'.cell? ⟨gb195, 0, none⟩ = some (.int .u8 a0_0) ∧ w'.cell? ⟨gb195, 1, none⟩ = some (.int .u8 a0_1) ∧ w'.cell? ⟨gb195, 2, none⟩ = some (.int .u8 a0_2) ∧ w'.cell? ⟨gb195, 3, none⟩ = some (.int .u8 a0_3) ∧ w'.cell? ⟨gb195, 4, none⟩ = some (.int .i32 a0_4)) ∧ (w'.heap[gb195]? = some (.cells #[.int .u8 a0_0, .int .u8 a0_1, .int .u8 a0_2, .int .u8 a0_3, .int .i32 a0_4] 23 (0, 0))) ∧ (w'.heap[s_.1]? = some (.cells #[.int .u8 0, .int .u8 0, .int .u8 0, .int .u8 0, .int .i32 0] 23 (0, 0))) ∧ (w'.heap[s_.2.1]? = some (.cells #[.int .u8 0, .int .u8 0, .int .u8 0, .int .u8 0, .int .i32 0] 23 (0, 0))) ∧ (w'.heap[s_.2.2]? = some (.cells #[.int .u8 0, .int .u8 0, .int .u8 0, .int .u8 0, .int .i32 0] 23 (0, 0))) ∧ (w.heap.size ≤ s_.1) ∧ (w.heap.size ≤ s_.1) ∧ (gb195 ≠ s_.1) ∧ (s_.1 ≠ gb195) ∧ (s_.2.1 ≠ s_.1) ∧ (s_.1 ≠ s_.2.1) ∧ (s_.2.2 ≠ s_.1) ∧ (s_.1 ≠ s_.2.2) ∧ (w.heap.size ≤ s_.2.1) ∧ (w.heap.size ≤ s_.2.1) ∧ (gb195 ≠ s_.2.1) ∧ (s_.2.1 ≠ gb195) ∧ (s_.2.2 ≠ s_.2.1) ∧ (s_.2.1 ≠ s_.2.2) ∧ (w.heap.size ≤ s_.2.2) ∧ (w.heap.size ≤ s_.2.2) ∧ (gb195 ≠ s_.2.2) ∧ (s_.2.2 ≠ gb195) ∧ (Below w.heap.size w w')) ?_ ?_
  rotate_left
  ·intro hJ4_5_6
   refine join_ (σ := Nat × Nat × Nat) 5 zb8_PxF (fun s_ => [(13, .pointer (some ⟨s_.1, 0, none⟩)), (14, .pointer (some ⟨s_.2.1, 0, none⟩)), (16, .pointer (some ⟨s_.2.2, 0, none⟩))]) (fun s_ w' => (w'.cell? ⟨gb195, 0, none⟩ = some (.int .u8 a0_0) ∧ w'.cell? ⟨gb195, 1, none⟩ = some (.int .u8 a0_1) ∧ w'.cell? ⟨gb195, 2, none⟩ = some (.int .u8 a0_2) ∧ w'.cell? ⟨gb195, 3, none⟩ = some (.int .u8 a0_3) ∧ w'.cell? ⟨gb195, 4, none⟩ = some (.int .i32 a0_4)) ∧ (w'.heap[gb195]? = some (.cells #[.int .u8 a0_0, .int .u8 a0_1, .int .u8 a0_2, .int .u8 a0_3, .int .i32 a0_4] 23 (0, 0))) ∧ (w'.heap[s_.1]? = some (.cells #[.int .u8 0, .int .u8 0, .int .u8 0, .int .u8 0, .int .i32 0] 23 (0, 0))) ∧ (w'.heap[s_.2.1]? = some (.cells #[.int .u8 0, .int .u8 0, .int .u8 0, .int .u8 0, .int .i32 0] 23 (0, 0))) ∧ (w'.heap[s_.2.2]? = some (.cells #[.int .u8 0, .int .u8 0, .int .u8 0, .int .u8 0, .int .i32 0] 23 (0, 0))) ∧ (w.heap.size ≤ s_.1) ∧ (w.heap.size ≤ s_.1) ∧ (gb195 ≠ s_.1) ∧ (s_.1 ≠ gb195) ∧ (s_.2.1 ≠ s_.1) ∧ (s_.1 ≠ s_.2.1) ∧ (s_.2.2 ≠ s_.1) ∧ (s_.1 ≠ s_.2.2) ∧ (w.heap.size ≤ s_.2.1) ∧ (w.heap.size ≤ s_.2.1) ∧ (gb195 ≠ s_.2.1) ∧ (s_.2.1 ≠ gb195) ∧ (s_.2.2 ≠ s_.2.1) ∧ (s_.2.1 ≠ s_.2.2) ∧ (w.heap.size ≤ s_.2.2) ∧ (w.heap.size ≤ s_.2.2) ∧ (gb195 ≠ s_.2.2) ∧ (s_.2.2 ≠ gb195) ∧ (Below w.heap.size w w')) ?_ ?_
   rotate_left
   ·intro hJ4_5_7
    refine join_ (σ := Nat × Nat × Nat) 5 zb9_PxF (fun s_ => [(13, .pointer (some ⟨s_.1, 0, none⟩)), (15, .pointer (some ⟨s_.2.1, 0, none⟩)), (16, .pointer (some ⟨s_.2.2, 0, none⟩))]) (fun s_ w' => (w'.cell? ⟨gb195, 0, none⟩ = some (.int .u8 a0_0) ∧ w'.cell? ⟨gb195, 1, none⟩ = some (.int .u8 a0_1) ∧ w'.cell? ⟨gb195, 2, none⟩ = some (.int .u8 a0_2) ∧ w'.cell? ⟨gb195, 3, none⟩ = some (.int .u8 a0_3) ∧ w'.cell? ⟨gb195, 4, none⟩ = some (.int .i32 a0_4)) ∧ (w'.heap[gb195]? = some (.cells #[.int .u8 a0_0, .int .u8 a0_1, .int .u8 a0_2, .int .u8 a0_3, .int .i32 a0_4] 23 (0, 0))) ∧ (w'.heap[s_.1]? = some (.cells #[.int .u8 0, .int .u8 0, .int .u8 0, .int .u8 0, .int .i32 0] 23 (0, 0))) ∧ (w'.heap[s_.2.1]? = some (.cells #[.int .u8 0, .int .u8 0, .int .u8 0, .int .u8 0, .int .i32 0] 23 (0, 0))) ∧ (w'.heap[s_.2.2]? = some (.cells #[.int .u8 0, .int .u8 0, .int .u8 0, .int .u8 0, .int .i32 0] 23 (0, 0))) ∧ (w.heap.size ≤ s_.1) ∧ (w.heap.size ≤ s_.1) ∧ (gb195 ≠ s_.1) ∧ (s_.1 ≠ gb195) ∧ (s_.2.1 ≠ s_.1) ∧ (s_.1 ≠ s_.2.1) ∧ (s_.2.2 ≠ s_.1) ∧ (s_.1 ≠ s_.2.2) ∧ (w.heap.size ≤ s_.2.1) ∧ (w.heap.size ≤ s_.2.1) ∧ (gb195 ≠ s_.2.1) ∧ (s_.2.1 ≠ gb195) ∧ (s_.2.2 ≠ s_.2.1) ∧ (s_.2.1 ≠ s_.2.2) ∧ (w.heap.size ≤ s_.2.2) ∧ (w.heap.size ≤ s_.2.2) ∧ (gb195 ≠ s_.2.2) ∧ (s_.2.2 ≠ gb195) ∧ (Below w.heap.size w w')) ?_ ?_
    rotate_left
    ·intro hJ4_6_7
     refine join_ (σ := Nat × Nat × Nat) 5 zb10_PxF (fun s_ => [(14, .pointer (some ⟨s_.1, 0, none⟩)), (15, .pointer (some ⟨s_.2.1, 0, none⟩)), (16, .pointer (some ⟨s_.2.2, 0, none⟩))]) (fun s_ w' => (w'.cell? ⟨gb195, 0, none⟩ = some (.int .u8 a0_0) ∧ w'.cell? ⟨gb195, 1, none⟩ = some (.int .u8 a0_1) ∧ w'.cell? ⟨gb195, 2, none⟩ = some (.int .u8 a0_2) ∧ w'.cell? ⟨gb195, 3, none⟩ = some (.int .u8 a0_3) ∧ w'.cell? ⟨gb195, 4, none⟩ = some (.int .i32 a0_4)) ∧ (w'.heap[gb195]? = some (.cells #[.int .u8 a0_0, .int .u8 a0_1, .int .u8 a0_2, .int .u8 a0_3, .int .i32 a0_4] 23 (0, 0))) ∧ (w'.heap[s_.1]? = some (.cells #[.int .u8 0, .int .u8 0, .int .u8 0, .int .u8 0, .int .i32 0] 23 (0, 0))) ∧ (w'.heap[s_.2.1]? = some (.cells #[.int .u8 0, .int .u8 0, .int .u8 0, .int .u8 0, .int .i32 0] 23 (0, 0))) ∧ (w'.heap[s_.2.2]? = some (.cells #[.int .u8 0, .int .u8 0, .int .u8 0, .int .u8 0, .int .i32 0] 23 (0, 0))) ∧ (w.heap.size ≤ s_.1) ∧ (w.heap.size ≤ s_.1) ∧ (gb195 ≠ s_.1) ∧ (s_.1 ≠ gb195) ∧ (s_.2.1 ≠ s_.1) ∧ (s_.1 ≠ s_.2.1) ∧ (s_.2.2 ≠ s_.1) ∧ (s_.1 ≠ s_.2.2) ∧ (w.heap.size ≤ s_.2.1) ∧ (w.heap.size ≤ s_.2.1) ∧ (gb195 ≠ s_.2.1) ∧ (s_.2.1 ≠ gb195) ∧ (s_.2.2 ≠ s_.2.1) ∧ (s_.2.1 ≠ s_.2.2) ∧ (w.heap.size ≤ s_.2.2) ∧ (w.heap.size ≤ s_.2.2) ∧ (gb195 ≠ s_.2.2) ∧ (s_.2.2 ≠ gb195) ∧ (Below w.heap.size w w')) ?_ ?_
     rotate_left
     ·intro hJ5_6_7
      refine join_ (σ := Nat × Nat) 6 zb11_PxF (fun s_ => [(13, .pointer (some ⟨s_.1, 0, none⟩)), (14, .pointer (some ⟨s_.2, 0, none⟩))]) (fun s_ w' => (w'.cell? ⟨gb195, 0, none⟩ = some (.int .u8 a0_0) ∧ w'.cell? ⟨gb195, 1, none⟩ = some (.int .u8 a0_1) ∧ w'.cell? ⟨gb195, 2, none⟩ = some (.int .u8 a0_2) ∧ w'.cell? ⟨gb195, 3, none⟩ = some (.int .u8 a0_3) ∧ w'.cell? ⟨gb195, 4, none⟩ = some (.int .i32 a0_4)) ∧ (w'.heap[gb195]? = some (.cells #[.int .u8 a0_0, .int .u8 a0_1, .int .u8 a0_2, .int .u8 a0_3, .int .i32 a0_4] 23 (0, 0))) ∧ (w'.heap[s_.1]? = some (.cells #[.int .u8 0, .int .u8 0, .int .u8 0, .int .u8 0, .int .i32 0] 23 (0, 0))) ∧ (w'.heap[s_.2]? = some (.cells #[.int .u8 0, .int .u8 0, .int .u8 0, .int .u8 0, .int .i32 0] 23 (0, 0))) ∧ (w.heap.size ≤ s_.1) ∧ (w.heap.size ≤ s_.1) ∧ (gb195 ≠ s_.1) ∧ (s_.1 ≠ gb195) ∧ (s_.2 ≠ s_.1) ∧ (s_.1 ≠ s_.2) ∧ (w.heap.size ≤ s_.2) ∧ (w.heap.size ≤ s_.2) ∧ (gb195 ≠ s_.2) ∧ (s_.2 ≠ gb195) ∧ (Below w.heap.size w w')) ?_ ?_
      rotate_left
      ·intro hJ4_5
       refine join_ (σ := Nat × Nat) 6 zb12_PxF (fun s_ => [(13, .pointer (some ⟨s_.1, 0, none⟩)), (15, .pointer (some ⟨s_.2, 0, none⟩))]) (fun s_ w' => (w'.cell? ⟨gb195, 0, none⟩ = some (.int .u8 a0_0) ∧ w'.cell? ⟨gb195, 1, none⟩ = some (.int .u8 a0_1) ∧ w'.cell? ⟨gb195, 2, none⟩ = some (.int .u8 a0_2) ∧ w'.cell? ⟨gb195, 3, none⟩ = some (.int .u8 a0_3) ∧ w'.cell? ⟨gb195, 4, none⟩ = some (.int .i32 a0_4)) ∧ (w'.heap[gb195]? = some (.cells #[.int .u8 a0_0, .int .u8 a0_1, .int .u8 a0_2, .int .u8 a0_3, .int .i32 a0_4] 23 (0, 0))) ∧ (w'.heap[s_.1]? = some (.cells #[.int .u8 0, .int .u8 0, .int .u8 0, .int .u8 0, .int .i32 0] 23 (0, 0))) ∧ (w'.heap[s_.2]? = some (.cells #[.int .u8 0, .int .u8 0, .int .u8 0, .int .u8 0, .int .i32 0] 23 (0, 0))) ∧ (w.heap.size ≤ s_.1) ∧ (w.heap.size ≤ s_.1) ∧ (gb195 ≠ s_.1) ∧ (s_.1 ≠ gb195) ∧ (s_.2 ≠ s_.1) ∧ (s_.1 ≠ s_.2) ∧ (w.heap.size ≤ s_.2) ∧ (w.heap.size ≤ s_.2) ∧ (gb195 ≠ s_.2) ∧ (s_.2 ≠ gb195) ∧ (Below w.heap.size w w')) ?_ ?_
       rotate_left
       ·intro hJ4_6
        refine join_ (σ := Nat × Nat) 6 zb13_PxF (fun s_ => [(13, .pointer (some ⟨s_.1, 0, none⟩)), (16, .pointer (some ⟨s_.2, 0, none⟩))]) (fun s_ w' => (w'.cell? ⟨gb195, 0, none⟩ = some (.int .u8 a0_0) ∧ w'.cell? ⟨gb195, 1, none⟩ = some (.int .u8 a0_1) ∧ w'.cell? ⟨gb195, 2, none⟩ = some (.int .u8 a0_2) ∧ w'.cell? ⟨gb195, 3, none⟩ = some (.int .u8 a0_3) ∧ w'.cell? ⟨gb195, 4, none⟩ = some (.int .i32 a0_4)) ∧ (w'.heap[gb195]? = some (.cells #[.int .u8 a0_0, .int .u8 a0_1, .int .u8 a0_2, .int .u8 a0_3, .int .i32 a0_4] 23 (0, 0))) ∧ (w'.heap[s_.1]? = some (.cells #[.int .u8 0, .int .u8 0, .int .u8 0, .int .u8 0, .int .i32 0] 23 (0, 0))) ∧ (w'.heap[s_.2]? = some (.cells #[.int .u8 0, .int .u8 0, .int .u8 0, .int .u8 0, .int .i32 0] 23 (0, 0))) ∧ (w.heap.size ≤ s_.1) ∧ (w.heap.size ≤ s_.1) ∧ (gb195 ≠ s_.1) ∧ (s_.1 ≠ gb195) ∧ (s_.2 ≠ s_.1) ∧ (s_.1 ≠ s_.2) ∧ (w.heap.size ≤ s_.2) ∧ (w.heap.size ≤ s_.2) ∧ (gb195 ≠ s_.2) ∧ (s_.2 ≠ gb195) ∧ (Below w.heap.size w w')) ?_ ?_
        rotate_left
        ·intro hJ4_7
         refine join_ (σ := Nat × Nat) 6 zb14_PxF (fun s_ => [(14, .pointer (some ⟨s_.1, 0, none⟩)), (15, .pointer (some ⟨s_.2, 0, none⟩))]) (fun s_ w' => (w'.cell? ⟨gb195, 0, none⟩ = some (.int .u8 a0_0) ∧ w'.cell? ⟨gb195, 1, none⟩ = some (.int .u8 a0_1) ∧ w'.cell? ⟨gb195, 2, none⟩ = some (.int .u8 a0_2) ∧ w'.cell? ⟨gb195, 3, none⟩ = some (.int .u8 a0_3) ∧ w'.cell? ⟨gb195, 4, none⟩ = some (.int .i32 a0_4)) ∧ (w'.heap[gb195]? = some (.cells #[.int .u8 a0_0, .int .u8 a0_1, .int .u8 a0_2, .int .u8 a0_3, .int .i32 a0_4] 23 (0, 0))) ∧ (w'.heap[s_.1]? = some (.cells #[.int .u8 0, .int .u8 0, .int .u8 0, .int .u8 0, .int .i32 0] 23 (0, 0))) ∧ (w'.heap[s_.2]? = some (.cells #[.int .u8 0, .int .u8 0, .int .u8 0, .int .u8 0, .int .i32 0] 23 (0, 0))) ∧ (w.heap.size ≤ s_.1) ∧ (w.heap.size ≤ s_.1) ∧ (gb195 ≠ s_.1) ∧ (s_.1 ≠ gb195) ∧ (s_.2 ≠ s_.1) ∧ (s_.1 ≠ s_.2) ∧ (w.heap.size ≤ s_.2) ∧ (w.heap.size ≤ s_.2) ∧ (gb195 ≠ s_.2) ∧ (s_.2 ≠ gb195) ∧ (Below w.heap.size w w')) ?_ ?_
         rotate_left
         ·intro hJ5_6
          refine join_ (σ := Nat × Nat) 6 zb15_PxF (fun s_ => [(14, .pointer (some ⟨s_.1, 0, none⟩)), (16, .pointer (some ⟨s_.2, 0, none⟩))]) (fun s_ w' => (w'.cell? ⟨gb195, 0, none⟩ = some (.int .u8 a0_0) ∧ w'.cell? ⟨gb195, 1, none⟩ = some (.int .u8 a0_1) ∧ w'.cell? ⟨gb195, 2, none⟩ = some (.int .u8 a0_2) ∧ w'.cell? ⟨gb195, 3, none⟩ = some (.int .u8 a0_3) ∧ w'.cell? ⟨gb195, 4, none⟩ = some (.int .i32 a0_4)) ∧ (w'.heap[gb195]? = some (.cells #[.int .u8 a0_0, .int .u8 a0_1, .int .u8 a0_2, .int .u8 a0_3, .int .i32 a0_4] 23 (0, 0))) ∧ (w'.heap[s_.1]? = some (.cells #[.int .u8 0, .int .u8 0, .int .u8 0, .int .u8 0, .int .i32 0] 23 (0, 0))) ∧ (w'.heap[s_.2]? = some (.cells #[.int .u8 0, .int .u8 0, .int .u8 0, .int .u8 0, .int .i32 0] 23 (0, 0))) ∧ (w.heap.size ≤ s_.1) ∧ (w.heap.size ≤ s_.1) ∧ (gb195 ≠ s_.1) ∧ (s_.1 ≠ gb195) ∧ (s_.2 ≠ s_.1) ∧ (s_.1 ≠ s_.2) ∧ (w.heap.size ≤ s_.2) ∧ (w.heap.size ≤ s_.2) ∧ (gb195 ≠ s_.2) ∧ (s_.2 ≠ gb195) ∧ (Below w.heap.size w w')) ?_ ?_
          rotate_left
          ·intro hJ5_7
           refine join_ (σ := Nat × Nat) 6 zb16_PxF (fun s_ => [(15, .pointer (some ⟨s_.1, 0, none⟩)), (16, .pointer (some ⟨s_.2, 0, none⟩))]) (fun s_ w' => (w'.cell? ⟨gb195, 0, none⟩ = some (.int .u8 a0_0) ∧ w'.cell? ⟨gb195, 1, none⟩ = some (.int .u8 a0_1) ∧ w'.cell? ⟨gb195, 2, none⟩ = some (.int .u8 a0_2) ∧ w'.cell? ⟨gb195, 3, none⟩ = some (.int .u8 a0_3) ∧ w'.cell? ⟨gb195, 4, none⟩ = some (.int .i32 a0_4)) ∧ (w'.heap[gb195]? = some (.cells #[.int .u8 a0_0, .int .u8 a0_1, .int .u8 a0_2, .int .u8 a0_3, .int .i32 a0_4] 23 (0, 0))) ∧ (w'.heap[s_.1]? = some (.cells #[.int .u8 0, .int .u8 0, .int .u8 0, .int .u8 0, .int .i32 0] 23 (0, 0))) ∧ (w'.heap[s_.2]? = some (.cells #[.int .u8 0, .int .u8 0, .int .u8 0, .int .u8 0, .int .i32 0] 23 (0, 0))) ∧ (w.heap.size ≤ s_.1) ∧ (w.heap.size ≤ s_.1) ∧ (gb195 ≠ s_.1) ∧ (s_.1 ≠ gb195) ∧ (s_.2 ≠ s_.1) ∧ (s_.1 ≠ s_.2) ∧ (w.heap.size ≤ s_.2) ∧ (w.heap.size ≤ s_.2) ∧ (gb195 ≠ s_.2) ∧ (s_.2 ≠ gb195) ∧ (Below w.heap.size w w')) ?_ ?_
           rotate_left
           ·intro hJ6_7
            refine join_ (σ := Nat) 7 zb17_PxF (fun s_ => [(13, .pointer (some ⟨s_, 0, none⟩))]) (fun s_ w' => (w'.cell? ⟨gb195, 0, none⟩ = some (.int .u8 a0_0) ∧ w'.cell? ⟨gb195, 1, none⟩ = some (.int .u8 a0_1) ∧ w'.cell? ⟨gb195, 2, none⟩ = some (.int .u8 a0_2) ∧ w'.cell? ⟨gb195, 3, none⟩ = some (.int .u8 a0_3) ∧ w'.cell? ⟨gb195, 4, none⟩ = some (.int .i32 a0_4)) ∧ (w'.heap[gb195]? = some (.cells #[.int .u8 a0_0, .int .u8 a0_1, .int .u8 a0_2, .int .u8 a0_3, .int .i32 a0_4] 23 (0, 0))) ∧ (w'.heap[s_]? = some (.cells #[.int .u8 0, .int .u8 0, .int .u8 0, .int .u8 0, .int .i32 0] 23 (0, 0))) ∧ (w.heap.size ≤ s_) ∧ (w.heap.size ≤ s_) ∧ (gb195 ≠ s_) ∧ (s_ ≠ gb195) ∧ (Below w.heap.size w w')) ?_ ?_
            rotate_left
            ·intro hJ4
             refine join_ (σ := Nat) 7 zb18_PxF (fun s_ => [(14, .pointer (some ⟨s_, 0, none⟩))]) (fun s_ w' => (w'.cell? ⟨gb195, 0, none⟩ = some (.int .u8 a0_0) ∧ w'.cell? ⟨gb195, 1, none⟩ = some (.int .u8 a0_1) ∧ w'.cell? ⟨gb195, 2, none⟩ = some (.int .u8 a0_2) ∧ w'.cell? ⟨gb195, 3, none⟩ = some (.int .u8 a0_3) ∧ w'.cell? ⟨gb195, 4, none⟩ = some (.int .i32 a0_4)) ∧ (w'.heap[gb195]? = some (.cells #[.int .u8 a0_0, .int .u8 a0_1, .int .u8 a0_2, .int .u8 a0_3, .int .i32 a0_4] 23 (0, 0))) ∧ (w'.heap[s_]? = some (.cells #[.int .u8 0, .int .u8 0, .int .u8 0, .int .u8 0, .int .i32 0] 23 (0, 0))) ∧ (w.heap.size ≤ s_) ∧ (w.heap.size ≤ s_) ∧ (gb195 ≠ s_) ∧ (s_ ≠ gb195) ∧ (Below w.heap.size w w')) ?_ ?_
             rotate_left
             ·intro hJ5
              refine join_ (σ := Nat) 7 zb19_PxF (fun s_ => [(15, .pointer (some ⟨s_, 0, none⟩))]) (fun s_ w' => (w'.cell? ⟨gb195, 0, none⟩ = some (.int .u8 a0_0) ∧ w'.cell? ⟨gb195, 1, none⟩ = some (.int .u8 a0_1) ∧ w'.cell? ⟨gb195, 2, none⟩ = some (.int .u8 a0_2) ∧ w'.cell? ⟨gb195, 3, none⟩ = some (.int .u8 a0_3) ∧ w'.cell? ⟨gb195, 4, none⟩ = some (.int .i32 a0_4)) ∧ (w'.heap[gb195]? = some (.cells #[.int .u8 a0_0, .int .u8 a0_1, .int .u8 a0_2, .int .u8 a0_3, .int .i32 a0_4] 23 (0, 0))) ∧ (w'.heap[s_]? = some (.cells #[.int .u8 0, .int .u8 0, .int .u8 0, .int .u8 0, .int .i32 0] 23 (0, 0))) ∧ (w.heap.size ≤ s_) ∧ (w.heap.size ≤ s_) ∧ (gb195 ≠ s_) ∧ (s_ ≠ gb195) ∧ (Below w.heap.size w w')) ?_ ?_
              rotate_left
              ·intro hJ6
               refine join_ (σ := Nat) 7 zb20_PxF (fun s_ => [(16, .pointer (some ⟨s_, 0, none⟩))]) (fun s_ w' => (w'.cell? ⟨gb195, 0, none⟩ = some (.int .u8 a0_0) ∧ w'.cell? ⟨gb195, 1, none⟩ = some (.int .u8 a0_1) ∧ w'.cell? ⟨gb195, 2, none⟩ = some (.int .u8 a0_2) ∧ w'.cell? ⟨gb195, 3, none⟩ = some (.int .u8 a0_3) ∧ w'.cell? ⟨gb195, 4, none⟩ = some (.int .i32 a0_4)) ∧ (w'.heap[gb195]? = some (.cells #[.int .u8 a0_0, .int .u8 a0_1, .int .u8 a0_2, .int .u8 a0_3, .int .i32 a0_4] 23 (0, 0))) ∧ (w'.heap[s_]? = some (.cells #[.int .u8 0, .int .u8 0, .int .u8 0, .int .u8 0, .int .i32 0] 23 (0, 0))) ∧ (w.heap.size ≤ s_) ∧ (w.heap.size ≤ s_) ∧ (gb195 ≠ s_) ∧ (s_ ≠ gb195) ∧ (Below w.heap.size w w')) ?_ ?_
               rotate_left
               ·intro hJ7
                refine four_ (i := 4) (j := 5) (k := 6) (m := 7) (Ni := some 13) (Nj := some 14) (Nk := some 15) (Nm := some 16) zb17_PxF zb18_PxF zb19_PxF zb20_PxF rfl rfl rfl rfl rfl rfl rfl rfl (four_of HT_.out (by kernel_rfl)) (by decide) (by decide) (by decide) (by decide) (fun K hK => ?_) (fun K hK => ?_) (fun K hK => ?_) (fun K hK => ?_)
                ·skip
                 refine box_step ?hg (N := 13) ?hd (cs := #[.int .u8 0, .int .u8 0, .int .u8 0, .int .u8 0, .int .i32 0]) (t := 23) ?hr ?_; (case hd => rfl); (case hg => rfl); (case hr => first | (go_simp; done) | (go_simp; rfl))
                 intro gb199 hg w28 hbox hb
                 have n0_ := Aside0.mk (blk_below (g := gb195) (o := .cells #[.int .u8 a0_0, .int .u8 a0_1, .int .u8 a0_2, .int .u8 a0_3, .int .i32 a0_4] 23 (0, 0)) BK195.out hb)
                 have n1_ := Aside0.mk (below_step (by repeat (first | (with_reducible first | exact HB.out | apply below_alloc | apply pw_below_drewN | apply below_drew1 | refine below_set ?_ GE195.out) | exact HB.out)) hb)
                 have n2_ := Aside0.mk (hbox)
                 have n3_ := Aside0.mk ((by rw [hg]; exact (below_size (by repeat (first | (with_reducible first | exact HB.out | apply below_alloc | apply pw_below_drewN | apply below_drew1 | refine below_set ?_ GE195.out) | exact HB.out))) : w.heap.size ≤ gb199))
                 have n4_ := Aside0.mk ((by rw [hg]; exact (below_size (by repeat (first | (with_reducible first | exact HB.out | apply below_alloc | apply pw_below_drewN | apply below_drew1 | refine below_set ?_ GE195.out) | exact HB.out))) : w.heap.size ≤ gb199))
                 have n5_ := Aside0.mk ((by rw [hg]; exact Nat.ne_of_lt (blk_lt (g := gb195) (o := .cells #[.int .u8 a0_0, .int .u8 a0_1, .int .u8 a0_2, .int .u8 a0_3, .int .i32 a0_4] 23 (0, 0)) BK195.out) : gb195 ≠ gb199))
                 have n6_ := Aside0.mk ((by rw [hg]; exact Nat.ne_of_gt (blk_lt (g := gb195) (o := .cells #[.int .u8 a0_0, .int .u8 a0_1, .int .u8 a0_2, .int .u8 a0_3, .int .i32 a0_4] 23 (0, 0)) BK195.out) : gb199 ≠ gb195))
                 clear BK195
                 clear HB
                 have BK195 := n0_
                 have HB := n1_
                 have BK199 := n2_
                 have GW199 := n3_
                 have GE199 := n4_
                 have NB195_199 := n5_
                 have NB199_195 := n6_
                 clear n0_ n1_ n2_ n3_ n4_ n5_ n6_
                 clear hb hbox hg
                 refine hK.out _ _ ⟨(blk_cell BK195.out 0).trans rfl, (blk_cell BK195.out 1).trans rfl, (blk_cell BK195.out 2).trans rfl, (blk_cell BK195.out 3).trans rfl, (blk_cell BK195.out 4).trans rfl⟩ (fun hHeld => ?_)
                 clear hK K
                 refine norm_ (a' := ?_) ?_ ?_
                 rotate_left
                 ·show Act.put _ (some 13) _ = _
                  simp only [Act.put, List.setIfInBounds_toArray, List.set_cons_zero, List.set_cons_succ, i64_w, i32_w]
                  rfl
                 exact norm_ (by first | (simp only [putAll, Act.put, List.setIfInBounds_toArray, List.set_cons_zero, List.set_cons_succ]; done) | (simp only [putAll, Act.put, List.setIfInBounds_toArray, List.set_cons_zero, List.set_cons_succ]; rfl)) (hJ4 (gb199) _ ⟨hHeld, BK195.out, BK199.out, GW199.out, GE199.out, NB195_199.out, NB199_195.out, (by repeat (first | (with_reducible first | exact HB.out | apply below_alloc | apply pw_below_drewN | apply below_drew1 | refine below_set ?_ GE195.out | refine below_set ?_ GE199.out) | exact HB.out))⟩)
                ·skip
                 refine box_step ?hg (N := 14) ?hd (cs := #[.int .u8 0, .int .u8 0, .int .u8 0, .int .u8 0, .int .i32 0]) (t := 23) ?hr ?_; (case hd => rfl); (case hg => rfl); (case hr => first | (go_simp; done) | (go_simp; rfl))
                 intro gb200 hg w28 hbox hb
                 have n0_ := Aside0.mk (blk_below (g := gb195) (o := .cells #[.int .u8 a0_0, .int .u8 a0_1, .int .u8 a0_2, .int .u8 a0_3, .int .i32 a0_4] 23 (0, 0)) BK195.out hb)
                 have n1_ := Aside0.mk (below_step (by repeat (first | (with_reducible first | exact HB.out | apply below_alloc | apply pw_below_drewN | apply below_drew1 | refine below_set ?_ GE195.out) | exact HB.out)) hb)
                 have n2_ := Aside0.mk (hbox)
                 have n3_ := Aside0.mk ((by rw [hg]; exact (below_size (by repeat (first | (with_reducible first | exact HB.out | apply below_alloc | apply pw_below_drewN | apply below_drew1 | refine below_set ?_ GE195.out) | exact HB.out))) : w.heap.size ≤ gb200))
                 have n4_ := Aside0.mk ((by rw [hg]; exact (below_size (by repeat (first | (with_reducible first | exact HB.out | apply below_alloc | apply pw_below_drewN | apply below_drew1 | refine below_set ?_ GE195.out) | exact HB.out))) : w.heap.size ≤ gb200))
                 have n5_ := Aside0.mk ((by rw [hg]; exact Nat.ne_of_lt (blk_lt (g := gb195) (o := .cells #[.int .u8 a0_0, .int .u8 a0_1, .int .u8 a0_2, .int .u8 a0_3, .int .i32 a0_4] 23 (0, 0)) BK195.out) : gb195 ≠ gb200))
                 have n6_ := Aside0.mk ((by rw [hg]; exact Nat.ne_of_gt (blk_lt (g := gb195) (o := .cells #[.int .u8 a0_0, .int .u8 a0_1, .int .u8 a0_2, .int .u8 a0_3, .int .i32 a0_4] 23 (0, 0)) BK195.out) : gb200 ≠ gb195))
                 clear BK195
                 clear HB
                 have BK195 := n0_
                 have HB := n1_
                 have BK200 := n2_
                 have GW200 := n3_
                 have GE200 := n4_
                 have NB195_200 := n5_
                 have NB200_195 := n6_
                 clear n0_ n1_ n2_ n3_ n4_ n5_ n6_
                 clear hb hbox hg
                 refine hK.out _ _ ⟨(blk_cell BK195.out 0).trans rfl, (blk_cell BK195.out 1).trans rfl, (blk_cell BK195.out 2).trans rfl, (blk_cell BK195.out 3).trans rfl, (blk_cell BK195.out 4).trans rfl⟩ (fun hHeld => ?_)
                 clear hK K
                 refine norm_ (a' := ?_) ?_ ?_
                 rotate_left
                 ·show Act.put _ (some 14) _ = _
                  simp only [Act.put, List.setIfInBounds_toArray, List.set_cons_zero, List.set_cons_succ, i64_w, i32_w]
                  rfl
                 exact norm_ (by first | (simp only [putAll, Act.put, List.setIfInBounds_toArray, List.set_cons_zero, List.set_cons_succ]; done) | (simp only [putAll, Act.put, List.setIfInBounds_toArray, List.set_cons_zero, List.set_cons_succ]; rfl)) (hJ5 (gb200) _ ⟨hHeld, BK195.out, BK200.out, GW200.out, GE200.out, NB195_200.out, NB200_195.out, (by repeat (first | (with_reducible first | exact HB.out | apply below_alloc | apply pw_below_drewN | apply below_drew1 | refine below_set ?_ GE195.out | refine below_set ?_ GE200.out) | exact HB.out))⟩)
                ·skip
                 refine box_step ?hg (N := 15) ?hd (cs := #[.int .u8 0, .int .u8 0, .int .u8 0, .int .u8 0, .int .i32 0]) (t := 23) ?hr ?_; (case hd => rfl); (case hg => rfl); (case hr => first | (go_simp; done) | (go_simp; rfl))
                 intro gb201 hg w28 hbox hb
                 have n0_ := Aside0.mk (blk_below (g := gb195) (o := .cells #[.int .u8 a0_0, .int .u8 a0_1, .int .u8 a0_2, .int .u8 a0_3, .int .i32 a0_4] 23 (0, 0)) BK195.out hb)
                 have n1_ := Aside0.mk (below_step (by repeat (first | (with_reducible first | exact HB.out | apply below_alloc | apply pw_below_drewN | apply below_drew1 | refine below_set ?_ GE195.out) | exact HB.out)) hb)
                 have n2_ := Aside0.mk (hbox)
                 have n3_ := Aside0.mk ((by rw [hg]; exact (below_size (by repeat (first | (with_reducible first | exact HB.out | apply below_alloc | apply pw_below_drewN | apply below_drew1 | refine below_set ?_ GE195.out) | exact HB.out))) : w.heap.size ≤ gb201))
                 have n4_ := Aside0.mk ((by rw [hg]; exact (below_size (by repeat (first | (with_reducible first | exact HB.out | apply below_alloc | apply pw_below_drewN | apply below_drew1 | refine below_set ?_ GE195.out) | exact HB.out))) : w.heap.size ≤ gb201))
                 have n5_ := Aside0.mk ((by rw [hg]; exact Nat.ne_of_lt (blk_lt (g := gb195) (o := .cells #[.int .u8 a0_0, .int .u8 a0_1, .int .u8 a0_2, .int .u8 a0_3, .int .i32 a0_4] 23 (0, 0)) BK195.out) : gb195 ≠ gb201))
                 have n6_ := Aside0.mk ((by rw [hg]; exact Nat.ne_of_gt (blk_lt (g := gb195) (o := .cells #[.int .u8 a0_0, .int .u8 a0_1, .int .u8 a0_2, .int .u8 a0_3, .int .i32 a0_4] 23 (0, 0)) BK195.out) : gb201 ≠ gb195))
                 clear BK195
                 clear HB
                 have BK195 := n0_
                 have HB := n1_
                 have BK201 := n2_
                 have GW201 := n3_
                 have GE201 := n4_
                 have NB195_201 := n5_
                 have NB201_195 := n6_
                 clear n0_ n1_ n2_ n3_ n4_ n5_ n6_
                 clear hb hbox hg
                 refine hK.out _ _ ⟨(blk_cell BK195.out 0).trans rfl, (blk_cell BK195.out 1).trans rfl, (blk_cell BK195.out 2).trans rfl, (blk_cell BK195.out 3).trans rfl, (blk_cell BK195.out 4).trans rfl⟩ (fun hHeld => ?_)
                 clear hK K
                 refine norm_ (a' := ?_) ?_ ?_
                 rotate_left
                 ·show Act.put _ (some 15) _ = _
                  simp only [Act.put, List.setIfInBounds_toArray, List.set_cons_zero, List.set_cons_succ, i64_w, i32_w]
                  rfl
                 exact norm_ (by first | (simp only [putAll, Act.put, List.setIfInBounds_toArray, List.set_cons_zero, List.set_cons_succ]; done) | (simp only [putAll, Act.put, List.setIfInBounds_toArray, List.set_cons_zero, List.set_cons_succ]; rfl)) (hJ6 (gb201) _ ⟨hHeld, BK195.out, BK201.out, GW201.out, GE201.out, NB195_201.out, NB201_195.out, (by repeat (first | (with_reducible first | exact HB.out | apply below_alloc | apply pw_below_drewN | apply below_drew1 | refine below_set ?_ GE195.out | refine below_set ?_ GE201.out) | exact HB.out))⟩)
                ·skip
                 refine box_step ?hg (N := 16) ?hd (cs := #[.int .u8 0, .int .u8 0, .int .u8 0, .int .u8 0, .int .i32 0]) (t := 23) ?hr ?_; (case hd => rfl); (case hg => rfl); (case hr => first | (go_simp; done) | (go_simp; rfl))
                 intro gb202 hg w28 hbox hb
                 have n0_ := Aside0.mk (blk_below (g := gb195) (o := .cells #[.int .u8 a0_0, .int .u8 a0_1, .int .u8 a0_2, .int .u8 a0_3, .int .i32 a0_4] 23 (0, 0)) BK195.out hb)
                 have n1_ := Aside0.mk (below_step (by repeat (first | (with_reducible first | exact HB.out | apply below_alloc | apply pw_below_drewN | apply below_drew1 | refine below_set ?_ GE195.out) | exact HB.out)) hb)
                 have n2_ := Aside0.mk (hbox)
                 have n3_ := Aside0.mk ((by rw [hg]; exact (below_size (by repeat (first | (with_reducible first | exact HB.out | apply below_alloc | apply pw_below_drewN | apply below_drew1 | refine below_set ?_ GE195.out) | exact HB.out))) : w.heap.size ≤ gb202))
                 have n4_ := Aside0.mk ((by rw [hg]; exact (below_size (by repeat (first | (with_reducible first | exact HB.out | apply below_alloc | apply pw_below_drewN | apply below_drew1 | refine below_set ?_ GE195.out) | exact HB.out))) : w.heap.size ≤ gb202))
                 have n5_ := Aside0.mk ((by rw [hg]; exact Nat.ne_of_lt (blk_lt (g := gb195) (o := .cells #[.int .u8 a0_0, .int .u8 a0_1, .int .u8 a0_2, .int .u8 a0_3, .int .i32 a0_4] 23 (0, 0)) BK195.out) : gb195 ≠ gb202))
                 have n6_ := Aside0.mk ((by rw [hg]; exact Nat.ne_of_gt (blk_lt (g := gb195) (o := .cells #[.int .u8 a0_0, .int .u8 a0_1, .int .u8 a0_2, .int .u8 a0_3, .int .i32 a0_4] 23 (0, 0)) BK195.out) : gb202 ≠ gb195))
                 clear BK195
                 clear HB
                 have BK195 := n0_
                 have HB := n1_
                 have BK202 := n2_
                 have GW202 := n3_
                 have GE202 := n4_
                 have NB195_202 := n5_
                 have NB202_195 := n6_
                 clear n0_ n1_ n2_ n3_ n4_ n5_ n6_
                 clear hb hbox hg
                 refine hK.out _ _ ⟨(blk_cell BK195.out 0).trans rfl, (blk_cell BK195.out 1).trans rfl, (blk_cell BK195.out 2).trans rfl, (blk_cell BK195.out 3).trans rfl, (blk_cell BK195.out 4).trans rfl⟩ (fun hHeld => ?_)
                 clear hK K
                 refine norm_ (a' := ?_) ?_ ?_
                 rotate_left
                 ·show Act.put _ (some 16) _ = _
                  simp only [Act.put, List.setIfInBounds_toArray, List.set_cons_zero, List.set_cons_succ, i64_w, i32_w]
                  rfl
                 exact norm_ (by first | (simp only [putAll, Act.put, List.setIfInBounds_toArray, List.set_cons_zero, List.set_cons_succ]; done) | (simp only [putAll, Act.put, List.setIfInBounds_toArray, List.set_cons_zero, List.set_cons_succ]; rfl)) (hJ7 (gb202) _ ⟨hHeld, BK195.out, BK202.out, GW202.out, GE202.out, NB195_202.out, NB202_195.out, (by repeat (first | (with_reducible first | exact HB.out | apply below_alloc | apply pw_below_drewN | apply below_drew1 | refine below_set ?_ GE195.out | refine below_set ?_ GE202.out) | exact HB.out))⟩)
               ·skip
                rintro gb202 w29 ⟨hS_, h0_, h1_, h2_, h3_, h4_, h5_, h6_⟩
                have n0_ : Aside0 (w29.heap[gb195]? = some (.cells #[.int .u8 a0_0, .int .u8 a0_1, .int .u8 a0_2, .int .u8 a0_3, .int .i32 a0_4] 23 (0, 0))) := ⟨h0_⟩
                have n1_ : Aside0 (w29.heap[gb202]? = some (.cells #[.int .u8 0, .int .u8 0, .int .u8 0, .int .u8 0, .int .i32 0] 23 (0, 0))) := ⟨h1_⟩
                have n2_ : Aside0 (w.heap.size ≤ gb202) := ⟨h2_⟩
                have n3_ : Aside0 (w.heap.size ≤ gb202) := ⟨h3_⟩
                have n4_ : Aside0 (gb195 ≠ gb202) := ⟨h4_⟩
                have n5_ : Aside0 (gb202 ≠ gb195) := ⟨h5_⟩
                have n6_ : Aside0 (Below w.heap.size w w29) := ⟨h6_⟩
                clear BK195
                clear HB
                clear h0_ h1_ h2_ h3_ h4_ h5_ h6_
                have BK195 := n0_
                have BK202 := n1_
                have GW202 := n2_
                have GE202 := n3_
                have NB195_202 := n4_
                have NB202_195 := n5_
                have HB := n6_
                clear n0_ n1_ n2_ n3_ n4_ n5_ n6_
                have hHeld : w29.cell? ⟨gb195, 0, none⟩ = some (.int .u8 a0_0) ∧ w29.cell? ⟨gb195, 1, none⟩ = some (.int .u8 a0_1) ∧ w29.cell? ⟨gb195, 2, none⟩ = some (.int .u8 a0_2) ∧ w29.cell? ⟨gb195, 3, none⟩ = some (.int .u8 a0_3) ∧ w29.cell? ⟨gb195, 4, none⟩ = some (.int .i32 a0_4) := hS_
                refine norm_ (a' := ?_) ?_ ?_
                rotate_left
                ·simp only [putAll, Act.put, List.setIfInBounds_toArray, List.set_cons_zero, List.set_cons_succ]
                 rfl
                refine three_ (i := 4) (j := 5) (k := 6) (Ni := some 13) (Nj := some 14) (Nk := some 15) zb13_PxF zb15_PxF zb16_PxF rfl rfl rfl rfl rfl rfl (three_of HT_.out (by kernel_rfl)) (by decide) (by decide) (by decide) (fun K hK => ?_) (fun K hK => ?_) (fun K hK => ?_)
                ·skip
                 refine box_step ?hg (N := 13) ?hd (cs := #[.int .u8 0, .int .u8 0, .int .u8 0, .int .u8 0, .int .i32 0]) (t := 23) ?hr ?_; (case hd => rfl); (case hg => rfl); (case hr => first | (go_simp; done) | (go_simp; rfl))
                 intro gb199 hg w30 hbox hb
                 have n0_ := Aside0.mk (blk_below (g := gb195) (o := .cells #[.int .u8 a0_0, .int .u8 a0_1, .int .u8 a0_2, .int .u8 a0_3, .int .i32 a0_4] 23 (0, 0)) BK195.out hb)
                 have n1_ := Aside0.mk (blk_below (g := gb202) (o := .cells #[.int .u8 0, .int .u8 0, .int .u8 0, .int .u8 0, .int .i32 0] 23 (0, 0)) BK202.out hb)
                 have n2_ := Aside0.mk (below_step (by repeat (first | (with_reducible first | exact HB.out | apply below_alloc | apply pw_below_drewN | apply below_drew1 | refine below_set ?_ GE195.out | refine below_set ?_ GE202.out) | exact HB.out)) hb)
                 have n3_ := Aside0.mk (hbox)
                 have n4_ := Aside0.mk ((by rw [hg]; exact (below_size (by repeat (first | (with_reducible first | exact HB.out | apply below_alloc | apply pw_below_drewN | apply below_drew1 | refine below_set ?_ GE195.out | refine below_set ?_ GE202.out) | exact HB.out))) : w.heap.size ≤ gb199))
                 have n5_ := Aside0.mk ((by rw [hg]; exact (below_size (by repeat (first | (with_reducible first | exact HB.out | apply below_alloc | apply pw_below_drewN | apply below_drew1 | refine below_set ?_ GE195.out | refine below_set ?_ GE202.out) | exact HB.out))) : w.heap.size ≤ gb199))
                 have n6_ := Aside0.mk ((by rw [hg]; exact Nat.ne_of_lt (blk_lt (g := gb195) (o := .cells #[.int .u8 a0_0, .int .u8 a0_1, .int .u8 a0_2, .int .u8 a0_3, .int .i32 a0_4] 23 (0, 0)) BK195.out) : gb195 ≠ gb199))
                 have n7_ := Aside0.mk ((by rw [hg]; exact Nat.ne_of_gt (blk_lt (g := gb195) (o := .cells #[.int .u8 a0_0, .int .u8 a0_1, .int .u8 a0_2, .int .u8 a0_3, .int .i32 a0_4] 23 (0, 0)) BK195.out) : gb199 ≠ gb195))
                 have n8_ := Aside0.mk ((by rw [hg]; exact Nat.ne_of_lt (blk_lt (g := gb202) (o := .cells #[.int .u8 0, .int .u8 0, .int .u8 0, .int .u8 0, .int .i32 0] 23 (0, 0)) BK202.out) : gb202 ≠ gb199))
                 have n9_ := Aside0.mk ((by rw [hg]; exact Nat.ne_of_gt (blk_lt (g := gb202) (o := .cells #[.int .u8 0, .int .u8 0, .int .u8 0, .int .u8 0, .int .i32 0] 23 (0, 0)) BK202.out) : gb199 ≠ gb202))
                 clear BK195
                 clear BK202
                 clear HB
                 have BK195 := n0_
                 have BK202 := n1_
                 have HB := n2_
                 have BK199 := n3_
                 have GW199 := n4_
                 have GE199 := n5_
                 have NB195_199 := n6_
                 have NB199_195 := n7_
                 have NB202_199 := n8_
                 have NB199_202 := n9_
                 clear n0_ n1_ n2_ n3_ n4_ n5_ n6_ n7_ n8_ n9_
                 clear hb hbox hg
                 refine hK.out _ _ ⟨(blk_cell BK195.out 0).trans rfl, (blk_cell BK195.out 1).trans rfl, (blk_cell BK195.out 2).trans rfl, (blk_cell BK195.out 3).trans rfl, (blk_cell BK195.out 4).trans rfl⟩ (fun hHeld => ?_)
                 clear hK K
                 refine norm_ (a' := ?_) ?_ ?_
                 rotate_left
                 ·show Act.put _ (some 13) _ = _
                  simp only [Act.put, List.setIfInBounds_toArray, List.set_cons_zero, List.set_cons_succ, i64_w, i32_w]
                  rfl
                 exact norm_ (by first | (simp only [putAll, Act.put, List.setIfInBounds_toArray, List.set_cons_zero, List.set_cons_succ]; done) | (simp only [putAll, Act.put, List.setIfInBounds_toArray, List.set_cons_zero, List.set_cons_succ]; rfl)) (hJ4_7 (gb199, gb202) _ ⟨hHeld, BK195.out, BK199.out, BK202.out, GW199.out, GE199.out, NB195_199.out, NB199_195.out, NB202_199.out, NB199_202.out, GW202.out, GE202.out, NB195_202.out, NB202_195.out, (by repeat (first | (with_reducible first | exact HB.out | apply below_alloc | apply pw_below_drewN | apply below_drew1 | refine below_set ?_ GE195.out | refine below_set ?_ GE202.out | refine below_set ?_ GE199.out) | exact HB.out))⟩)
                ·skip
                 refine box_step ?hg (N := 14) ?hd (cs := #[.int .u8 0, .int .u8 0, .int .u8 0, .int .u8 0, .int .i32 0]) (t := 23) ?hr ?_; (case hd => rfl); (case hg => rfl); (case hr => first | (go_simp; done) | (go_simp; rfl))
                 intro gb200 hg w30 hbox hb
                 have n0_ := Aside0.mk (blk_below (g := gb195) (o := .cells #[.int .u8 a0_0, .int .u8 a0_1, .int .u8 a0_2, .int .u8 a0_3, .int .i32 a0_4] 23 (0, 0)) BK195.out hb)
                 have n1_ := Aside0.mk (blk_below (g := gb202) (o := .cells #[.int .u8 0, .int .u8 0, .int .u8 0, .int .u8 0, .int .i32 0] 23 (0, 0)) BK202.out hb)
                 have n2_ := Aside0.mk (below_step (by repeat (first | (with_reducible first | exact HB.out | apply below_alloc | apply pw_below_drewN | apply below_drew1 | refine below_set ?_ GE195.out | refine below_set ?_ GE202.out) | exact HB.out)) hb)
                 have n3_ := Aside0.mk (hbox)
                 have n4_ := Aside0.mk ((by rw [hg]; exact (below_size (by repeat (first | (with_reducible first | exact HB.out | apply below_alloc | apply pw_below_drewN | apply below_drew1 | refine below_set ?_ GE195.out | refine below_set ?_ GE202.out) | exact HB.out))) : w.heap.size ≤ gb200))
                 have n5_ := Aside0.mk ((by rw [hg]; exact (below_size (by repeat (first | (with_reducible first | exact HB.out | apply below_alloc | apply pw_below_drewN | apply below_drew1 | refine below_set ?_ GE195.out | refine below_set ?_ GE202.out) | exact HB.out))) : w.heap.size ≤ gb200))
                 have n6_ := Aside0.mk ((by rw [hg]; exact Nat.ne_of_lt (blk_lt (g := gb195) (o := .cells #[.int .u8 a0_0, .int .u8 a0_1, .int .u8 a0_2, .int .u8 a0_3, .int .i32 a0_4] 23 (0, 0)) BK195.out) : gb195 ≠ gb200))
                 have n7_ := Aside0.mk ((by rw [hg]; exact Nat.ne_of_gt (blk_lt (g := gb195) (o := .cells #[.int .u8 a0_0, .int .u8 a0_1, .int .u8 a0_2, .int .u8 a0_3, .int .i32 a0_4] 23 (0, 0)) BK195.out) : gb200 ≠ gb195))
                 have n8_ := Aside0.mk ((by rw [hg]; exact Nat.ne_of_lt (blk_lt (g := gb202) (o := .cells #[.int .u8 0, .int .u8 0, .int .u8 0, .int .u8 0, .int .i32 0] 23 (0, 0)) BK202.out) : gb202 ≠ gb200))
                 have n9_ := Aside0.mk ((by rw [hg]; exact Nat.ne_of_gt (blk_lt (g := gb202) (o := .cells #[.int .u8 0, .int .u8 0, .int .u8 0, .int .u8 0, .int .i32 0] 23 (0, 0)) BK202.out) : gb200 ≠ gb202))
                 clear BK195
                 clear BK202
                 clear HB
                 have BK195 := n0_
                 have BK202 := n1_
                 have HB := n2_
                 have BK200 := n3_
                 have GW200 := n4_
                 have GE200 := n5_
                 have NB195_200 := n6_
                 have NB200_195 := n7_
                 have NB202_200 := n8_
                 have NB200_202 := n9_
                 clear n0_ n1_ n2_ n3_ n4_ n5_ n6_ n7_ n8_ n9_
                 clear hb hbox hg
                 refine hK.out _ _ ⟨(blk_cell BK195.out 0).trans rfl, (blk_cell BK195.out 1).trans rfl, (blk_cell BK195.out 2).trans rfl, (blk_cell BK195.out 3).trans rfl, (blk_cell BK195.out 4).trans rfl⟩ (fun hHeld => ?_)
                 clear hK K
                 refine norm_ (a' := ?_) ?_ ?_
                 rotate_left
                 ·show Act.put _ (some 14) _ = _
                  simp only [Act.put, List.setIfInBounds_toArray, List.set_cons_zero, List.set_cons_succ, i64_w, i32_w]
                  rfl
                 exact norm_ (by first | (simp only [putAll, Act.put, List.setIfInBounds_toArray, List.set_cons_zero, List.set_cons_succ]; done) | (simp only [putAll, Act.put, List.setIfInBounds_toArray, List.set_cons_zero, List.set_cons_succ]; rfl)) (hJ5_7 (gb200, gb202) _ ⟨hHeld, BK195.out, BK200.out, BK202.out, GW200.out, GE200.out, NB195_200.out, NB200_195.out, NB202_200.out, NB200_202.out, GW202.out, GE202.out, NB195_202.out, NB202_195.out, (by repeat (first | (with_reducible first | exact HB.out | apply below_alloc | apply pw_below_drewN | apply below_drew1 | refine below_set ?_ GE195.out | refine below_set ?_ GE202.out | refine below_set ?_ GE200.out) | exact HB.out))⟩)
                ·skip
                 refine box_step ?hg (N := 15) ?hd (cs := #[.int .u8 0, .int .u8 0, .int .u8 0, .int .u8 0, .int .i32 0]) (t := 23) ?hr ?_; (case hd => rfl); (case hg => rfl); (case hr => first | (go_simp; done) | (go_simp; rfl))
                 intro gb201 hg w30 hbox hb
                 have n0_ := Aside0.mk (blk_below (g := gb195) (o := .cells #[.int .u8 a0_0, .int .u8 a0_1, .int .u8 a0_2, .int .u8 a0_3, .int .i32 a0_4] 23 (0, 0)) BK195.out hb)
                 have n1_ := Aside0.mk (blk_below (g := gb202) (o := .cells #[.int .u8 0, .int .u8 0, .int .u8 0, .int .u8 0, .int .i32 0] 23 (0, 0)) BK202.out hb)
                 have n2_ := Aside0.mk (below_step (by repeat (first | (with_reducible first | exact HB.out | apply below_alloc | apply pw_below_drewN | apply below_drew1 | refine below_set ?_ GE195.out | refine below_set ?_ GE202.out) | exact HB.out)) hb)
                 have n3_ := Aside0.mk (hbox)
                 have n4_ := Aside0.mk ((by rw [hg]; exact (below_size (by repeat (first | (with_reducible first | exact HB.out | apply below_alloc | apply pw_below_drewN | apply below_drew1 | refine below_set ?_ GE195.out | refine below_set ?_ GE202.out) | exact HB.out))) : w.heap.size ≤ gb201))
                 have n5_ := Aside0.mk ((by rw [hg]; exact (below_size (by repeat (first | (with_reducible first | exact HB.out | apply below_alloc | apply pw_below_drewN | apply below_drew1 | refine below_set ?_ GE195.out | refine below_set ?_ GE202.out) | exact HB.out))) : w.heap.size ≤ gb201))
                 have n6_ := Aside0.mk ((by rw [hg]; exact Nat.ne_of_lt (blk_lt (g := gb195) (o := .cells #[.int .u8 a0_0, .int .u8 a0_1, .int .u8 a0_2, .int .u8 a0_3, .int .i32 a0_4] 23 (0, 0)) BK195.out) : gb195 ≠ gb201))
                 have n7_ := Aside0.mk ((by rw [hg]; exact Nat.ne_of_gt (blk_lt (g := gb195) (o := .cells #[.int .u8 a0_0, .int .u8 a0_1, .int .u8 a0_2, .int .u8 a0_3, .int .i32 a0_4] 23 (0, 0)) BK195.out) : gb201 ≠ gb195))
                 have n8_ := Aside0.mk ((by rw [hg]; exact Nat.ne_of_lt (blk_lt (g := gb202) (o := .cells #[.int .u8 0, .int .u8 0, .int .u8 0, .int .u8 0, .int .i32 0] 23 (0, 0)) BK202.out) : gb202 ≠ gb201))
                 have n9_ := Aside0.mk ((by rw [hg]; exact Nat.ne_of_gt (blk_lt (g := gb202) (o := .cells #[.int .u8 0, .int .u8 0, .int .u8 0, .int .u8 0, .int .i32 0] 23 (0, 0)) BK202.out) : gb201 ≠ gb202))
                 clear BK195
                 clear BK202
                 clear HB
                 have BK195 := n0_
                 have BK202 := n1_
                 have HB := n2_
                 have BK201 := n3_
                 have GW201 := n4_
                 have GE201 := n5_
                 have NB195_201 := n6_
                 have NB201_195 := n7_
                 have NB202_201 := n8_
                 have NB201_202 := n9_
                 clear n0_ n1_ n2_ n3_ n4_ n5_ n6_ n7_ n8_ n9_
                 clear hb hbox hg
                 refine hK.out _ _ ⟨(blk_cell BK195.out 0).trans rfl, (blk_cell BK195.out 1).trans rfl, (blk_cell BK195.out 2).trans rfl, (blk_cell BK195.out 3).trans rfl, (blk_cell BK195.out 4).trans rfl⟩ (fun hHeld => ?_)
                 clear hK K
                 refine norm_ (a' := ?_) ?_ ?_
                 rotate_left
                 ·show Act.put _ (some 15) _ = _
                  simp only [Act.put, List.setIfInBounds_toArray, List.set_cons_zero, List.set_cons_succ, i64_w, i32_w]
                  rfl
                 exact norm_ (by first | (simp only [putAll, Act.put, List.setIfInBounds_toArray, List.set_cons_zero, List.set_cons_succ]; done) | (simp only [putAll, Act.put, List.setIfInBounds_toArray, List.set_cons_zero, List.set_cons_succ]; rfl)) (hJ6_7 (gb201, gb202) _ ⟨hHeld, BK195.out, BK201.out, BK202.out, GW201.out, GE201.out, NB195_201.out, NB201_195.out, NB202_201.out, NB201_202.out, GW202.out, GE202.out, NB195_202.out, NB202_195.out, (by repeat (first | (with_reducible first | exact HB.out | apply below_alloc | apply pw_below_drewN | apply below_drew1 | refine below_set ?_ GE195.out | refine below_set ?_ GE202.out | refine below_set ?_ GE201.out) | exact HB.out))⟩)
              ·skip
               rintro gb201 w29 ⟨hS_, h0_, h1_, h2_, h3_, h4_, h5_, h6_⟩
               have n0_ : Aside0 (w29.heap[gb195]? = some (.cells #[.int .u8 a0_0, .int .u8 a0_1, .int .u8 a0_2, .int .u8 a0_3, .int .i32 a0_4] 23 (0, 0))) := ⟨h0_⟩
               have n1_ : Aside0 (w29.heap[gb201]? = some (.cells #[.int .u8 0, .int .u8 0, .int .u8 0, .int .u8 0, .int .i32 0] 23 (0, 0))) := ⟨h1_⟩
               have n2_ : Aside0 (w.heap.size ≤ gb201) := ⟨h2_⟩
               have n3_ : Aside0 (w.heap.size ≤ gb201) := ⟨h3_⟩
               have n4_ : Aside0 (gb195 ≠ gb201) := ⟨h4_⟩
               have n5_ : Aside0 (gb201 ≠ gb195) := ⟨h5_⟩
               have n6_ : Aside0 (Below w.heap.size w w29) := ⟨h6_⟩
               clear BK195
               clear HB
               clear h0_ h1_ h2_ h3_ h4_ h5_ h6_
               have BK195 := n0_
               have BK201 := n1_
               have GW201 := n2_
               have GE201 := n3_
               have NB195_201 := n4_
               have NB201_195 := n5_
               have HB := n6_
               clear n0_ n1_ n2_ n3_ n4_ n5_ n6_
               have hHeld : w29.cell? ⟨gb195, 0, none⟩ = some (.int .u8 a0_0) ∧ w29.cell? ⟨gb195, 1, none⟩ = some (.int .u8 a0_1) ∧ w29.cell? ⟨gb195, 2, none⟩ = some (.int .u8 a0_2) ∧ w29.cell? ⟨gb195, 3, none⟩ = some (.int .u8 a0_3) ∧ w29.cell? ⟨gb195, 4, none⟩ = some (.int .i32 a0_4) := hS_
               refine norm_ (a' := ?_) ?_ ?_
               rotate_left
               ·simp only [putAll, Act.put, List.setIfInBounds_toArray, List.set_cons_zero, List.set_cons_succ]
                rfl
               refine three_ (i := 4) (j := 5) (k := 7) (Ni := some 13) (Nj := some 14) (Nk := some 16) zb12_PxF zb14_PxF zb16_PxF rfl rfl rfl rfl rfl rfl (three_of HT_.out (by kernel_rfl)) (by decide) (by decide) (by decide) (fun K hK => ?_) (fun K hK => ?_) (fun K hK => ?_)
               ·skip
                refine box_step ?hg (N := 13) ?hd (cs := #[.int .u8 0, .int .u8 0, .int .u8 0, .int .u8 0, .int .i32 0]) (t := 23) ?hr ?_; (case hd => rfl); (case hg => rfl); (case hr => first | (go_simp; done) | (go_simp; rfl))
                intro gb199 hg w30 hbox hb
                have n0_ := Aside0.mk (blk_below (g := gb195) (o := .cells #[.int .u8 a0_0, .int .u8 a0_1, .int .u8 a0_2, .int .u8 a0_3, .int .i32 a0_4] 23 (0, 0)) BK195.out hb)
                have n1_ := Aside0.mk (blk_below (g := gb201) (o := .cells #[.int .u8 0, .int .u8 0, .int .u8 0, .int .u8 0, .int .i32 0] 23 (0, 0)) BK201.out hb)
                have n2_ := Aside0.mk (below_step (by repeat (first | (with_reducible first | exact HB.out | apply below_alloc | apply pw_below_drewN | apply below_drew1 | refine below_set ?_ GE195.out | refine below_set ?_ GE201.out) | exact HB.out)) hb)
                have n3_ := Aside0.mk (hbox)
                have n4_ := Aside0.mk ((by rw [hg]; exact (below_size (by repeat (first | (with_reducible first | exact HB.out | apply below_alloc | apply pw_below_drewN | apply below_drew1 | refine below_set ?_ GE195.out | refine below_set ?_ GE201.out) | exact HB.out))) : w.heap.size ≤ gb199))
                have n5_ := Aside0.mk ((by rw [hg]; exact (below_size (by repeat (first | (with_reducible first | exact HB.out | apply below_alloc | apply pw_below_drewN | apply below_drew1 | refine below_set ?_ GE195.out | refine below_set ?_ GE201.out) | exact HB.out))) : w.heap.size ≤ gb199))
                have n6_ := Aside0.mk ((by rw [hg]; exact Nat.ne_of_lt (blk_lt (g := gb195) (o := .cells #[.int .u8 a0_0, .int .u8 a0_1, .int .u8 a0_2, .int .u8 a0_3, .int .i32 a0_4] 23 (0, 0)) BK195.out) : gb195 ≠ gb199))
                have n7_ := Aside0.mk ((by rw [hg]; exact Nat.ne_of_gt (blk_lt (g := gb195) (o := .cells #[.int .u8 a0_0, .int .u8 a0_1, .int .u8 a0_2, .int .u8 a0_3, .int .i32 a0_4] 23 (0, 0)) BK195.out) : gb199 ≠ gb195))
                have n8_ := Aside0.mk ((by rw [hg]; exact Nat.ne_of_lt (blk_lt (g := gb201) (o := .cells #[.int .u8 0, .int .u8 0, .int .u8 0, .int .u8 0, .int .i32 0] 23 (0, 0)) BK201.out) : gb201 ≠ gb199))
                have n9_ := Aside0.mk ((by rw [hg]; exact Nat.ne_of_gt (blk_lt (g := gb201) (o := .cells #[.int .u8 0, .int .u8 0, .int .u8 0, .int .u8 0, .int .i32 0] 23 (0, 0)) BK201.out) : gb199 ≠ gb201))
                clear BK195
                clear BK201
                clear HB
                have BK195 := n0_
                have BK201 := n1_
                have HB := n2_
                have BK199 := n3_
                have GW199 := n4_
                have GE199 := n5_
                have NB195_199 := n6_
                have NB199_195 := n7_
                have NB201_199 := n8_
                have NB199_201 := n9_
                clear n0_ n1_ n2_ n3_ n4_ n5_ n6_ n7_ n8_ n9_
                clear hb hbox hg
                refine hK.out _ _ ⟨(blk_cell BK195.out 0).trans rfl, (blk_cell BK195.out 1).trans rfl, (blk_cell BK195.out 2).trans rfl, (blk_cell BK195.out 3).trans rfl, (blk_cell BK195.out 4).trans rfl⟩ (fun hHeld => ?_)
                clear hK K
                refine norm_ (a' := ?_) ?_ ?_
                rotate_left
                ·show Act.put _ (some 13) _ = _
                 simp only [Act.put, List.setIfInBounds_toArray, List.set_cons_zero, List.set_cons_succ, i64_w, i32_w]
                 rfl
                exact norm_ (by first | (simp only [putAll, Act.put, List.setIfInBounds_toArray, List.set_cons_zero, List.set_cons_succ]; done) | (simp only [putAll, Act.put, List.setIfInBounds_toArray, List.set_cons_zero, List.set_cons_succ]; rfl)) (hJ4_6 (gb199, gb201) _ ⟨hHeld, BK195.out, BK199.out, BK201.out, GW199.out, GE199.out, NB195_199.out, NB199_195.out, NB201_199.out, NB199_201.out, GW201.out, GE201.out, NB195_201.out, NB201_195.out, (by repeat (first | (with_reducible first | exact HB.out | apply below_alloc | apply pw_below_drewN | apply below_drew1 | refine below_set ?_ GE195.out | refine below_set ?_ GE201.out | refine below_set ?_ GE199.out) | exact HB.out))⟩)
               ·skip
                refine box_step ?hg (N := 14) ?hd (cs := #[.int .u8 0, .int .u8 0, .int .u8 0, .int .u8 0, .int .i32 0]) (t := 23) ?hr ?_; (case hd => rfl); (case hg => rfl); (case hr => first | (go_simp; done) | (go_simp; rfl))
                intro gb200 hg w30 hbox hb
                have n0_ := Aside0.mk (blk_below (g := gb195) (o := .cells #[.int .u8 a0_0, .int .u8 a0_1, .int .u8 a0_2, .int .u8 a0_3, .int .i32 a0_4] 23 (0, 0)) BK195.out hb)
                have n1_ := Aside0.mk (blk_below (g := gb201) (o := .cells #[.int .u8 0, .int .u8 0, .int .u8 0, .int .u8 0, .int .i32 0] 23 (0, 0)) BK201.out hb)
                have n2_ := Aside0.mk (below_step (by repeat (first | (with_reducible first | exact HB.out | apply below_alloc | apply pw_below_drewN | apply below_drew1 | refine below_set ?_ GE195.out | refine below_set ?_ GE201.out) | exact HB.out)) hb)
                have n3_ := Aside0.mk (hbox)
                have n4_ := Aside0.mk ((by rw [hg]; exact (below_size (by repeat (first | (with_reducible first | exact HB.out | apply below_alloc | apply pw_below_drewN | apply below_drew1 | refine below_set ?_ GE195.out | refine below_set ?_ GE201.out) | exact HB.out))) : w.heap.size ≤ gb200))
                have n5_ := Aside0.mk ((by rw [hg]; exact (below_size (by repeat (first | (with_reducible first | exact HB.out | apply below_alloc | apply pw_below_drewN | apply below_drew1 | refine below_set ?_ GE195.out | refine below_set ?_ GE201.out) | exact HB.out))) : w.heap.size ≤ gb200))
                have n6_ := Aside0.mk ((by rw [hg]; exact Nat.ne_of_lt (blk_lt (g := gb195) (o := .cells #[.int .u8 a0_0, .int .u8 a0_1, .int .u8 a0_2, .int .u8 a0_3, .int .i32 a0_4] 23 (0, 0)) BK195.out) : gb195 ≠ gb200))
                have n7_ := Aside0.mk ((by rw [hg]; exact Nat.ne_of_gt (blk_lt (g := gb195) (o := .cells #[.int .u8 a0_0, .int .u8 a0_1, .int .u8 a0_2, .int .u8 a0_3, .int .i32 a0_4] 23 (0, 0)) BK195.out) : gb200 ≠ gb195))
                have n8_ := Aside0.mk ((by rw [hg]; exact Nat.ne_of_lt (blk_lt (g := gb201) (o := .cells #[.int .u8 0, .int .u8 0, .int .u8 0, .int .u8 0, .int .i32 0] 23 (0, 0)) BK201.out) : gb201 ≠ gb200))
                have n9_ := Aside0.mk ((by rw [hg]; exact Nat.ne_of_gt (blk_lt (g := gb201) (o := .cells #[.int .u8 0, .int .u8 0, .int .u8 0, .int .u8 0, .int .i32 0] 23 (0, 0)) BK201.out) : gb200 ≠ gb201))
                clear BK195
                clear BK201
                clear HB
                have BK195 := n0_
                have BK201 := n1_
                have HB := n2_
                have BK200 := n3_
                have GW200 := n4_
                have GE200 := n5_
                have NB195_200 := n6_
                have NB200_195 := n7_
                have NB201_200 := n8_
                have NB200_201 := n9_
                clear n0_ n1_ n2_ n3_ n4_ n5_ n6_ n7_ n8_ n9_
                clear hb hbox hg
                refine hK.out _ _ ⟨(blk_cell BK195.out 0).trans rfl, (blk_cell BK195.out 1).trans rfl, (blk_cell BK195.out 2).trans rfl, (blk_cell BK195.out 3).trans rfl, (blk_cell BK195.out 4).trans rfl⟩ (fun hHeld => ?_)
                clear hK K
                refine norm_ (a' := ?_) ?_ ?_
                rotate_left
                ·show Act.put _ (some 14) _ = _
                 simp only [Act.put, List.setIfInBounds_toArray, List.set_cons_zero, List.set_cons_succ, i64_w, i32_w]
                 rfl
                exact norm_ (by first | (simp only [putAll, Act.put, List.setIfInBounds_toArray, List.set_cons_zero, List.set_cons_succ]; done) | (simp only [putAll, Act.put, List.setIfInBounds_toArray, List.set_cons_zero, List.set_cons_succ]; rfl)) (hJ5_6 (gb200, gb201) _ ⟨hHeld, BK195.out, BK200.out, BK201.out, GW200.out, GE200.out, NB195_200.out, NB200_195.out, NB201_200.out, NB200_201.out, GW201.out, GE201.out, NB195_201.out, NB201_195.out, (by repeat (first | (with_reducible first | exact HB.out | apply below_alloc | apply pw_below_drewN | apply below_drew1 | refine below_set ?_ GE195.out | refine below_set ?_ GE201.out | refine below_set ?_ GE200.out) | exact HB.out))⟩)
               ·skip
                refine box_step ?hg (N := 16) ?hd (cs := #[.int .u8 0, .int .u8 0, .int .u8 0, .int .u8 0, .int .i32 0]) (t := 23) ?hr ?_; (case hd => rfl); (case hg => rfl); (case hr => first | (go_simp; done) | (go_simp; rfl))
                intro gb202 hg w30 hbox hb
                have n0_ := Aside0.mk (blk_below (g := gb195) (o := .cells #[.int .u8 a0_0, .int .u8 a0_1, .int .u8 a0_2, .int .u8 a0_3, .int .i32 a0_4] 23 (0, 0)) BK195.out hb)
                have n1_ := Aside0.mk (blk_below (g := gb201) (o := .cells #[.int .u8 0, .int .u8 0, .int .u8 0, .int .u8 0, .int .i32 0] 23 (0, 0)) BK201.out hb)
                have n2_ := Aside0.mk (below_step (by repeat (first | (with_reducible first | exact HB.out | apply below_alloc | apply pw_below_drewN | apply below_drew1 | refine below_set ?_ GE195.out | refine below_set ?_ GE201.out) | exact HB.out)) hb)
                have n3_ := Aside0.mk (hbox)
                have n4_ := Aside0.mk ((by rw [hg]; exact (below_size (by repeat (first | (with_reducible first | exact HB.out | apply below_alloc | apply pw_below_drewN | apply below_drew1 | refine below_set ?_ GE195.out | refine below_set ?_ GE201.out) | exact HB.out))) : w.heap.size ≤ gb202))
                have n5_ := Aside0.mk ((by rw [hg]; exact (below_size (by repeat (first | (with_reducible first | exact HB.out | apply below_alloc | apply pw_below_drewN | apply below_drew1 | refine below_set ?_ GE195.out | refine below_set ?_ GE201.out) | exact HB.out))) : w.heap.size ≤ gb202))
                have n6_ := Aside0.mk ((by rw [hg]; exact Nat.ne_of_lt (blk_lt (g := gb195) (o := .cells #[.int .u8 a0_0, .int .u8 a0_1, .int .u8 a0_2, .int .u8 a0_3, .int .i32 a0_4] 23 (0, 0)) BK195.out) : gb195 ≠ gb202))
                have n7_ := Aside0.mk ((by rw [hg]; exact Nat.ne_of_gt (blk_lt (g := gb195) (o := .cells #[.int .u8 a0_0, .int .u8 a0_1, .int .u8 a0_2, .int .u8 a0_3, .int .i32 a0_4] 23 (0, 0)) BK195.out) : gb202 ≠ gb195))
                have n8_ := Aside0.mk ((by rw [hg]; exact Nat.ne_of_lt (blk_lt (g := gb201) (o := .cells #[.int .u8 0, .int .u8 0, .int .u8 0, .int .u8 0, .int .i32 0] 23 (0, 0)) BK201.out) : gb201 ≠ gb202))
                have n9_ := Aside0.mk ((by rw [hg]; exact Nat.ne_of_gt (blk_lt (g := gb201) (o := .cells #[.int .u8 0, .int .u8 0, .int .u8 0, .int .u8 0, .int .i32 0] 23 (0, 0)) BK201.out) : gb202 ≠ gb201))
                clear BK195
                clear BK201
                clear HB
                have BK195 := n0_
                have BK201 := n1_
                have HB := n2_
                have BK202 := n3_
                have GW202 := n4_
                have GE202 := n5_
                have NB195_202 := n6_
                have NB202_195 := n7_
                have NB201_202 := n8_
                have NB202_201 := n9_
                clear n0_ n1_ n2_ n3_ n4_ n5_ n6_ n7_ n8_ n9_
                clear hb hbox hg
                refine hK.out _ _ ⟨(blk_cell BK195.out 0).trans rfl, (blk_cell BK195.out 1).trans rfl, (blk_cell BK195.out 2).trans rfl, (blk_cell BK195.out 3).trans rfl, (blk_cell BK195.out 4).trans rfl⟩ (fun hHeld => ?_)
                clear hK K
                refine norm_ (a' := ?_) ?_ ?_
                rotate_left
                ·show Act.put _ (some 16) _ = _
                 simp only [Act.put, List.setIfInBounds_toArray, List.set_cons_zero, List.set_cons_succ, i64_w, i32_w]
                 rfl
                exact norm_ (by first | (simp only [putAll, Act.put, List.setIfInBounds_toArray, List.set_cons_zero, List.set_cons_succ]; done) | (simp only [putAll, Act.put, List.setIfInBounds_toArray, List.set_cons_zero, List.set_cons_succ]; rfl)) (hJ6_7 (gb201, gb202) _ ⟨hHeld, BK195.out, BK201.out, BK202.out, GW201.out, GE201.out, NB195_201.out, NB201_195.out, NB202_201.out, NB201_202.out, GW202.out, GE202.out, NB195_202.out, NB202_195.out, (by repeat (first | (with_reducible first | exact HB.out | apply below_alloc | apply pw_below_drewN | apply below_drew1 | refine below_set ?_ GE195.out | refine below_set ?_ GE201.out | refine below_set ?_ GE202.out) | exact HB.out))⟩)
             ·skip
              rintro gb200 w29 ⟨hS_, h0_, h1_, h2_, h3_, h4_, h5_, h6_⟩
              have n0_ : Aside0 (w29.heap[gb195]? = some (.cells #[.int .u8 a0_0, .int .u8 a0_1, .int .u8 a0_2, .int .u8 a0_3, .int .i32 a0_4] 23 (0, 0))) := ⟨h0_⟩
              have n1_ : Aside0 (w29.heap[gb200]? = some (.cells #[.int .u8 0, .int .u8 0, .int .u8 0, .int .u8 0, .int .i32 0] 23 (0, 0))) := ⟨h1_⟩
              have n2_ : Aside0 (w.heap.size ≤ gb200) := ⟨h2_⟩
              have n3_ : Aside0 (w.heap.size ≤ gb200) := ⟨h3_⟩
              have n4_ : Aside0 (gb195 ≠ gb200) := ⟨h4_⟩
              have n5_ : Aside0 (gb200 ≠ gb195) := ⟨h5_⟩
              have n6_ : Aside0 (Below w.heap.size w w29) := ⟨h6_⟩
              clear BK195
              clear HB
              clear h0_ h1_ h2_ h3_ h4_ h5_ h6_
              have BK195 := n0_
              have BK200 := n1_
              have GW200 := n2_
              have GE200 := n3_
              have NB195_200 := n4_
              have NB200_195 := n5_
              have HB := n6_
              clear n0_ n1_ n2_ n3_ n4_ n5_ n6_
              have hHeld : w29.cell? ⟨gb195, 0, none⟩ = some (.int .u8 a0_0) ∧ w29.cell? ⟨gb195, 1, none⟩ = some (.int .u8 a0_1) ∧ w29.cell? ⟨gb195, 2, none⟩ = some (.int .u8 a0_2) ∧ w29.cell? ⟨gb195, 3, none⟩ = some (.int .u8 a0_3) ∧ w29.cell? ⟨gb195, 4, none⟩ = some (.int .i32 a0_4) := hS_
              refine norm_ (a' := ?_) ?_ ?_
              rotate_left
              ·simp only [putAll, Act.put, List.setIfInBounds_toArray, List.set_cons_zero, List.set_cons_succ]
               rfl
              refine three_ (i := 4) (j := 6) (k := 7) (Ni := some 13) (Nj := some 15) (Nk := some 16) zb11_PxF zb14_PxF zb15_PxF rfl rfl rfl rfl rfl rfl (three_of HT_.out (by kernel_rfl)) (by decide) (by decide) (by decide) (fun K hK => ?_) (fun K hK => ?_) (fun K hK => ?_)
              ·skip
               refine box_step ?hg (N := 13) ?hd (cs := #[.int .u8 0, .int .u8 0, .int .u8 0, .int .u8 0, .int .i32 0]) (t := 23) ?hr ?_; (case hd => rfl); (case hg => rfl); (case hr => first | (go_simp; done) | (go_simp; rfl))
               intro gb199 hg w30 hbox hb
               have n0_ := Aside0.mk (blk_below (g := gb195) (o := .cells #[.int .u8 a0_0, .int .u8 a0_1, .int .u8 a0_2, .int .u8 a0_3, .int .i32 a0_4] 23 (0, 0)) BK195.out hb)
               have n1_ := Aside0.mk (blk_below (g := gb200) (o := .cells #[.int .u8 0, .int .u8 0, .int .u8 0, .int .u8 0, .int .i32 0] 23 (0, 0)) BK200.out hb)
               have n2_ := Aside0.mk (below_step (by repeat (first | (with_reducible first | exact HB.out | apply below_alloc | apply pw_below_drewN | apply below_drew1 | refine below_set ?_ GE195.out | refine below_set ?_ GE200.out) | exact HB.out)) hb)
               have n3_ := Aside0.mk (hbox)
               have n4_ := Aside0.mk ((by rw [hg]; exact (below_size (by repeat (first | (with_reducible first | exact HB.out | apply below_alloc | apply pw_below_drewN | apply below_drew1 | refine below_set ?_ GE195.out | refine below_set ?_ GE200.out) | exact HB.out))) : w.heap.size ≤ gb199))
               have n5_ := Aside0.mk ((by rw [hg]; exact (below_size (by repeat (first | (with_reducible first | exact HB.out | apply below_alloc | apply pw_below_drewN | apply below_drew1 | refine below_set ?_ GE195.out | refine below_set ?_ GE200.out) | exact HB.out))) : w.heap.size ≤ gb199))
               have n6_ := Aside0.mk ((by rw [hg]; exact Nat.ne_of_lt (blk_lt (g := gb195) (o := .cells #[.int .u8 a0_0, .int .u8 a0_1, .int .u8 a0_2, .int .u8 a0_3, .int .i32 a0_4] 23 (0, 0)) BK195.out) : gb195 ≠ gb199))
               have n7_ := Aside0.mk ((by rw [hg]; exact Nat.ne_of_gt (blk_lt (g := gb195) (o := .cells #[.int .u8 a0_0, .int .u8 a0_1, .int .u8 a0_2, .int .u8 a0_3, .int .i32 a0_4] 23 (0, 0)) BK195.out) : gb199 ≠ gb195))
               have n8_ := Aside0.mk ((by rw [hg]; exact Nat.ne_of_lt (blk_lt (g := gb200) (o := .cells #[.int .u8 0, .int .u8 0, .int .u8 0, .int .u8 0, .int .i32 0] 23 (0, 0)) BK200.out) : gb200 ≠ gb199))
               have n9_ := Aside0.mk ((by rw [hg]; exact Nat.ne_of_gt (blk_lt (g := gb200) (o := .cells #[.int .u8 0, .int .u8 0, .int .u8 0, .int .u8 0, .int .i32 0] 23 (0, 0)) BK200.out) : gb199 ≠ gb200))
               clear BK195
               clear BK200
               clear HB
               have BK195 := n0_
               have BK200 := n1_
               have HB := n2_
               have BK199 := n3_
               have GW199 := n4_
               have GE199 := n5_
               have NB195_199 := n6_
               have NB199_195 := n7_
               have NB200_199 := n8_
               have NB199_200 := n9_
               clear n0_ n1_ n2_ n3_ n4_ n5_ n6_ n7_ n8_ n9_
               clear hb hbox hg
               refine hK.out _ _ ⟨(blk_cell BK195.out 0).trans rfl, (blk_cell BK195.out 1).trans rfl, (blk_cell BK195.out 2).trans rfl, (blk_cell BK195.out 3).trans rfl, (blk_cell BK195.out 4).trans rfl⟩ (fun hHeld => ?_)
               clear hK K
               refine norm_ (a' := ?_) ?_ ?_
               rotate_left
               ·show Act.put _ (some 13) _ = _
                simp only [Act.put, List.setIfInBounds_toArray, List.set_cons_zero, List.set_cons_succ, i64_w, i32_w]
                rfl
               exact norm_ (by first | (simp only [putAll, Act.put, List.setIfInBounds_toArray, List.set_cons_zero, List.set_cons_succ]; done) | (simp only [putAll, Act.put, List.setIfInBounds_toArray, List.set_cons_zero, List.set_cons_succ]; rfl)) (hJ4_5 (gb199, gb200) _ ⟨hHeld, BK195.out, BK199.out, BK200.out, GW199.out, GE199.out, NB195_199.out, NB199_195.out, NB200_199.out, NB199_200.out, GW200.out, GE200.out, NB195_200.out, NB200_195.out, (by repeat (first | (with_reducible first | exact HB.out | apply below_alloc | apply pw_below_drewN | apply below_drew1 | refine below_set ?_ GE195.out | refine below_set ?_ GE200.out | refine below_set ?_ GE199.out) | exact HB.out))⟩)
              ·skip
               refine box_step ?hg (N := 15) ?hd (cs := #[.int .u8 0, .int .u8 0, .int .u8 0, .int .u8 0, .int .i32 0]) (t := 23) ?hr ?_; (case hd => rfl); (case hg => rfl); (case hr => first | (go_simp; done) | (go_simp; rfl))
               intro gb201 hg w30 hbox hb
               have n0_ := Aside0.mk (blk_below (g := gb195) (o := .cells #[.int .u8 a0_0, .int .u8 a0_1, .int .u8 a0_2, .int .u8 a0_3, .int .i32 a0_4] 23 (0, 0)) BK195.out hb)
               have n1_ := Aside0.mk (blk_below (g := gb200) (o := .cells #[.int .u8 0, .int .u8 0, .int .u8 0, .int .u8 0, .int .i32 0] 23 (0, 0)) BK200.out hb)
               have n2_ := Aside0.mk (below_step (by repeat (first | (with_reducible first | exact HB.out | apply below_alloc | apply pw_below_drewN | apply below_drew1 | refine below_set ?_ GE195.out | refine below_set ?_ GE200.out) | exact HB.out)) hb)
               have n3_ := Aside0.mk (hbox)
               have n4_ := Aside0.mk ((by rw [hg]; exact (below_size (by repeat (first | (with_reducible first | exact HB.out | apply below_alloc | apply pw_below_drewN | apply below_drew1 | refine below_set ?_ GE195.out | refine below_set ?_ GE200.out) | exact HB.out))) : w.heap.size ≤ gb201))
               have n5_ := Aside0.mk ((by rw [hg]; exact (below_size (by repeat (first | (with_reducible first | exact HB.out | apply below_alloc | apply pw_below_drewN | apply below_drew1 | refine below_set ?_ GE195.out | refine below_set ?_ GE200.out) | exact HB.out))) : w.heap.size ≤ gb201))
               have n6_ := Aside0.mk ((by rw [hg]; exact Nat.ne_of_lt (blk_lt (g := gb195) (o := .cells #[.int .u8 a0_0, .int .u8 a0_1, .int .u8 a0_2, .int .u8 a0_3, .int .i32 a0_4] 23 (0, 0)) BK195.out) : gb195 ≠ gb201))
               have n7_ := Aside0.mk ((by rw [hg]; exact Nat.ne_of_gt (blk_lt (g := gb195) (o := .cells #[.int .u8 a0_0, .int .u8 a0_1, .int .u8 a0_2, .int .u8 a0_3, .int .i32 a0_4] 23 (0, 0)) BK195.out) : gb201 ≠ gb195))
               have n8_ := Aside0.mk ((by rw [hg]; exact Nat.ne_of_lt (blk_lt (g := gb200) (o := .cells #[.int .u8 0, .int .u8 0, .int .u8 0, .int .u8 0, .int .i32 0] 23 (0, 0)) BK200.out) : gb200 ≠ gb201))
               have n9_ := Aside0.mk ((by rw [hg]; exact Nat.ne_of_gt (blk_lt (g := gb200) (o := .cells #[.int .u8 0, .int .u8 0, .int .u8 0, .int .u8 0, .int .i32 0] 23 (0, 0)) BK200.out) : gb201 ≠ gb200))
               clear BK195
               clear BK200
               clear HB
               have BK195 := n0_
               have BK200 := n1_
               have HB := n2_
               have BK201 := n3_
               have GW201 := n4_
               have GE201 := n5_
               have NB195_201 := n6_
               have NB201_195 := n7_
               have NB200_201 := n8_
               have NB201_200 := n9_
               clear n0_ n1_ n2_ n3_ n4_ n5_ n6_ n7_ n8_ n9_
               clear hb hbox hg
               refine hK.out _ _ ⟨(blk_cell BK195.out 0).trans rfl, (blk_cell BK195.out 1).trans rfl, (blk_cell BK195.out 2).trans rfl, (blk_cell BK195.out 3).trans rfl, (blk_cell BK195.out 4).trans rfl⟩ (fun hHeld => ?_)
               clear hK K
               refine norm_ (a' := ?_) ?_ ?_
               rotate_left
               ·show Act.put _ (some 15) _ = _
                simp only [Act.put, List.setIfInBounds_toArray, List.set_cons_zero, List.set_cons_succ, i64_w, i32_w]
                rfl
               exact norm_ (by first | (simp only [putAll, Act.put, List.setIfInBounds_toArray, List.set_cons_zero, List.set_cons_succ]; done) | (simp only [putAll, Act.put, List.setIfInBounds_toArray, List.set_cons_zero, List.set_cons_succ]; rfl)) (hJ5_6 (gb200, gb201) _ ⟨hHeld, BK195.out, BK200.out, BK201.out, GW200.out, GE200.out, NB195_200.out, NB200_195.out, NB201_200.out, NB200_201.out, GW201.out, GE201.out, NB195_201.out, NB201_195.out, (by repeat (first | (with_reducible first | exact HB.out | apply below_alloc | apply pw_below_drewN | apply below_drew1 | refine below_set ?_ GE195.out | refine below_set ?_ GE200.out | refine below_set ?_ GE201.out) | exact HB.out))⟩)
              ·skip
               refine box_step ?hg (N := 16) ?hd (cs := #[.int .u8 0, .int .u8 0, .int .u8 0, .int .u8 0, .int .i32 0]) (t := 23) ?hr ?_; (case hd => rfl); (case hg => rfl); (case hr => first | (go_simp; done) | (go_simp; rfl))
               intro gb202 hg w30 hbox hb
               have n0_ := Aside0.mk (blk_below (g := gb195) (o := .cells #[.int .u8 a0_0, .int .u8 a0_1, .int .u8 a0_2, .int .u8 a0_3, .int .i32 a0_4] 23 (0, 0)) BK195.out hb)
               have n1_ := Aside0.mk (blk_below (g := gb200) (o := .cells #[.int .u8 0, .int .u8 0, .int .u8 0, .int .u8 0, .int .i32 0] 23 (0, 0)) BK200.out hb)
               have n2_ := Aside0.mk (below_step (by repeat (first | (with_reducible first | exact HB.out | apply below_alloc | apply pw_below_drewN | apply below_drew1 | refine below_set ?_ GE195.out | refine below_set ?_ GE200.out) | exact HB.out)) hb)
               have n3_ := Aside0.mk (hbox)
               have n4_ := Aside0.mk ((by rw [hg]; exact (below_size (by repeat (first | (with_reducible first | exact HB.out | apply below_alloc | apply pw_below_drewN | apply below_drew1 | refine below_set ?_ GE195.out | refine below_set ?_ GE200.out) | exact HB.out))) : w.heap.size ≤ gb202))
               have n5_ := Aside0.mk ((by rw [hg]; exact (below_size (by repeat (first | (with_reducible first | exact HB.out | apply below_alloc | apply pw_below_drewN | apply below_drew1 | refine below_set ?_ GE195.out | refine below_set ?_ GE200.out) | exact HB.out))) : w.heap.size ≤ gb202))
               have n6_ := Aside0.mk ((by rw [hg]; exact Nat.ne_of_lt (blk_lt (g := gb195) (o := .cells #[.int .u8 a0_0, .int .u8 a0_1, .int .u8 a0_2, .int .u8 a0_3, .int .i32 a0_4] 23 (0, 0)) BK195.out) : gb195 ≠ gb202))
               have n7_ := Aside0.mk ((by rw [hg]; exact Nat.ne_of_gt (blk_lt (g := gb195) (o := .cells #[.int .u8 a0_0, .int .u8 a0_1, .int .u8 a0_2, .int .u8 a0_3, .int .i32 a0_4] 23 (0, 0)) BK195.out) : gb202 ≠ gb195))
               have n8_ := Aside0.mk ((by rw [hg]; exact Nat.ne_of_lt (blk_lt (g := gb200) (o := .cells #[.int .u8 0, .int .u8 0, .int .u8 0, .int .u8 0, .int .i32 0] 23 (0, 0)) BK200.out) : gb200 ≠ gb202))
               have n9_ := Aside0.mk ((by rw [hg]; exact Nat.ne_of_gt (blk_lt (g := gb200) (o := .cells #[.int .u8 0, .int .u8 0, .int .u8 0, .int .u8 0, .int .i32 0] 23 (0, 0)) BK200.out) : gb202 ≠ gb200))
               clear BK195
               clear BK200
               clear HB
               have BK195 := n0_
               have BK200 := n1_
               have HB := n2_
               have BK202 := n3_
               have GW202 := n4_
               have GE202 := n5_
               have NB195_202 := n6_
               have NB202_195 := n7_
               have NB200_202 := n8_
               have NB202_200 := n9_
               clear n0_ n1_ n2_ n3_ n4_ n5_ n6_ n7_ n8_ n9_
               clear hb hbox hg
               refine hK.out _ _ ⟨(blk_cell BK195.out 0).trans rfl, (blk_cell BK195.out 1).trans rfl, (blk_cell BK195.out 2).trans rfl, (blk_cell BK195.out 3).trans rfl, (blk_cell BK195.out 4).trans rfl⟩ (fun hHeld => ?_)
               clear hK K
               refine norm_ (a' := ?_) ?_ ?_
               rotate_left
               ·show Act.put _ (some 16) _ = _
                simp only [Act.put, List.setIfInBounds_toArray, List.set_cons_zero, List.set_cons_succ, i64_w, i32_w]
                rfl
               exact norm_ (by first | (simp only [putAll, Act.put, List.setIfInBounds_toArray, List.set_cons_zero, List.set_cons_succ]; done) | (simp only [putAll, Act.put, List.setIfInBounds_toArray, List.set_cons_zero, List.set_cons_succ]; rfl)) (hJ5_7 (gb200, gb202) _ ⟨hHeld, BK195.out, BK200.out, BK202.out, GW200.out, GE200.out, NB195_200.out, NB200_195.out, NB202_200.out, NB200_202.out, GW202.out, GE202.out, NB195_202.out, NB202_195.out, (by repeat (first | (with_reducible first | exact HB.out | apply below_alloc | apply pw_below_drewN | apply below_drew1 | refine below_set ?_ GE195.out | refine below_set ?_ GE200.out | refine below_set ?_ GE202.out) | exact HB.out))⟩)
            ·skip
             rintro gb199 w29 ⟨hS_, h0_, h1_, h2_, h3_, h4_, h5_, h6_⟩
             have n0_ : Aside0 (w29.heap[gb195]? = some (.cells #[.int .u8 a0_0, .int .u8 a0_1, .int .u8 a0_2, .int .u8 a0_3, .int .i32 a0_4] 23 (0, 0))) := ⟨h0_⟩
             have n1_ : Aside0 (w29.heap[gb199]? = some (.cells #[.int .u8 0, .int .u8 0, .int .u8 0, .int .u8 0, .int .i32 0] 23 (0, 0))) := ⟨h1_⟩
             have n2_ : Aside0 (w.heap.size ≤ gb199) := ⟨h2_⟩
             have n3_ : Aside0 (w.heap.size ≤ gb199) := ⟨h3_⟩
             have n4_ : Aside0 (gb195 ≠ gb199) := ⟨h4_⟩
             have n5_ : Aside0 (gb199 ≠ gb195) := ⟨h5_⟩
             have n6_ : Aside0 (Below w.heap.size w w29) := ⟨h6_⟩
             clear BK195
             clear HB
             clear h0_ h1_ h2_ h3_ h4_ h5_ h6_
             have BK195 := n0_
             have BK199 := n1_
             have GW199 := n2_
             have GE199 := n3_
             have NB195_199 := n4_
             have NB199_195 := n5_
             have HB := n6_
             clear n0_ n1_ n2_ n3_ n4_ n5_ n6_
             have hHeld : w29.cell? ⟨gb195, 0, none⟩ = some (.int .u8 a0_0) ∧ w29.cell? ⟨gb195, 1, none⟩ = some (.int .u8 a0_1) ∧ w29.cell? ⟨gb195, 2, none⟩ = some (.int .u8 a0_2) ∧ w29.cell? ⟨gb195, 3, none⟩ = some (.int .u8 a0_3) ∧ w29.cell? ⟨gb195, 4, none⟩ = some (.int .i32 a0_4) := hS_
             refine norm_ (a' := ?_) ?_ ?_
             rotate_left
             ·simp only [putAll, Act.put, List.setIfInBounds_toArray, List.set_cons_zero, List.set_cons_succ]
              rfl
             refine three_ (i := 5) (j := 6) (k := 7) (Ni := some 14) (Nj := some 15) (Nk := some 16) zb11_PxF zb12_PxF zb13_PxF rfl rfl rfl rfl rfl rfl (three_of HT_.out (by kernel_rfl)) (by decide) (by decide) (by decide) (fun K hK => ?_) (fun K hK => ?_) (fun K hK => ?_)
             ·skip
              refine box_step ?hg (N := 14) ?hd (cs := #[.int .u8 0, .int .u8 0, .int .u8 0, .int .u8 0, .int .i32 0]) (t := 23) ?hr ?_; (case hd => rfl); (case hg => rfl); (case hr => first | (go_simp; done) | (go_simp; rfl))
              intro gb200 hg w30 hbox hb
              have n0_ := Aside0.mk (blk_below (g := gb195) (o := .cells #[.int .u8 a0_0, .int .u8 a0_1, .int .u8 a0_2, .int .u8 a0_3, .int .i32 a0_4] 23 (0, 0)) BK195.out hb)
              have n1_ := Aside0.mk (blk_below (g := gb199) (o := .cells #[.int .u8 0, .int .u8 0, .int .u8 0, .int .u8 0, .int .i32 0] 23 (0, 0)) BK199.out hb)
              have n2_ := Aside0.mk (below_step (by repeat (first | (with_reducible first | exact HB.out | apply below_alloc | apply pw_below_drewN | apply below_drew1 | refine below_set ?_ GE195.out | refine below_set ?_ GE199.out) | exact HB.out)) hb)
              have n3_ := Aside0.mk (hbox)
              have n4_ := Aside0.mk ((by rw [hg]; exact (below_size (by repeat (first | (with_reducible first | exact HB.out | apply below_alloc | apply pw_below_drewN | apply below_drew1 | refine below_set ?_ GE195.out | refine below_set ?_ GE199.out) | exact HB.out))) : w.heap.size ≤ gb200))
              have n5_ := Aside0.mk ((by rw [hg]; exact (below_size (by repeat (first | (with_reducible first | exact HB.out | apply below_alloc | apply pw_below_drewN | apply below_drew1 | refine below_set ?_ GE195.out | refine below_set ?_ GE199.out) | exact HB.out))) : w.heap.size ≤ gb200))
              have n6_ := Aside0.mk ((by rw [hg]; exact Nat.ne_of_lt (blk_lt (g := gb195) (o := .cells #[.int .u8 a0_0, .int .u8 a0_1, .int .u8 a0_2, .int .u8 a0_3, .int .i32 a0_4] 23 (0, 0)) BK195.out) : gb195 ≠ gb200))
              have n7_ := Aside0.mk ((by rw [hg]; exact Nat.ne_of_gt (blk_lt (g := gb195) (o := .cells #[.int .u8 a0_0, .int .u8 a0_1, .int .u8 a0_2, .int .u8 a0_3, .int .i32 a0_4] 23 (0, 0)) BK195.out) : gb200 ≠ gb195))
              have n8_ := Aside0.mk ((by rw [hg]; exact Nat.ne_of_lt (blk_lt (g := gb199) (o := .cells #[.int .u8 0, .int .u8 0, .int .u8 0, .int .u8 0, .int .i32 0] 23 (0, 0)) BK199.out) : gb199 ≠ gb200))
              have n9_ := Aside0.mk ((by rw [hg]; exact Nat.ne_of_gt (blk_lt (g := gb199) (o := .cells #[.int .u8 0, .int .u8 0, .int .u8 0, .int .u8 0, .int .i32 0] 23 (0, 0)) BK199.out) : gb200 ≠ gb199))
              clear BK195
              clear BK199
              clear HB
              have BK195 := n0_
              have BK199 := n1_
              have HB := n2_
              have BK200 := n3_
              have GW200 := n4_
              have GE200 := n5_
              have NB195_200 := n6_
              have NB200_195 := n7_
              have NB199_200 := n8_
              have NB200_199 := n9_
              clear n0_ n1_ n2_ n3_ n4_ n5_ n6_ n7_ n8_ n9_
              clear hb hbox hg
              refine hK.out _ _ ⟨(blk_cell BK195.out 0).trans rfl, (blk_cell BK195.out 1).trans rfl, (blk_cell BK195.out 2).trans rfl, (blk_cell BK195.out 3).trans rfl, (blk_cell BK195.out 4).trans rfl⟩ (fun hHeld => ?_)
              clear hK K
              refine norm_ (a' := ?_) ?_ ?_
              rotate_left
              ·show Act.put _ (some 14) _ = _
               simp only [Act.put, List.setIfInBounds_toArray, List.set_cons_zero, List.set_cons_succ, i64_w, i32_w]
               rfl
              exact norm_ (by first | (simp only [putAll, Act.put, List.setIfInBounds_toArray, List.set_cons_zero, List.set_cons_succ]; done) | (simp only [putAll, Act.put, List.setIfInBounds_toArray, List.set_cons_zero, List.set_cons_succ]; rfl)) (hJ4_5 (gb199, gb200) _ ⟨hHeld, BK195.out, BK199.out, BK200.out, GW199.out, GE199.out, NB195_199.out, NB199_195.out, NB200_199.out, NB199_200.out, GW200.out, GE200.out, NB195_200.out, NB200_195.out, (by repeat (first | (with_reducible first | exact HB.out | apply below_alloc | apply pw_below_drewN | apply below_drew1 | refine below_set ?_ GE195.out | refine below_set ?_ GE199.out | refine below_set ?_ GE200.out) | exact HB.out))⟩)
             ·skip
              refine box_step ?hg (N := 15) ?hd (cs := #[.int .u8 0, .int .u8 0, .int .u8 0, .int .u8 0, .int .i32 0]) (t := 23) ?hr ?_; (case hd => rfl); (case hg => rfl); (case hr => first | (go_simp; done) | (go_simp; rfl))
              intro gb201 hg w30 hbox hb
              have n0_ := Aside0.mk (blk_below (g := gb195) (o := .cells #[.int .u8 a0_0, .int .u8 a0_1, .int .u8 a0_2, .int .u8 a0_3, .int .i32 a0_4] 23 (0, 0)) BK195.out hb)
              have n1_ := Aside0.mk (blk_below (g := gb199) (o := .cells #[.int .u8 0, .int .u8 0, .int .u8 0, .int .u8 0, .int .i32 0] 23 (0, 0)) BK199.out hb)
              have n2_ := Aside0.mk (below_step (by repeat (first | (with_reducible first | exact HB.out | apply below_alloc | apply pw_below_drewN | apply below_drew1 | refine below_set ?_ GE195.out | refine below_set ?_ GE199.out) | exact HB.out)) hb)
              have n3_ := Aside0.mk (hbox)
              have n4_ := Aside0.mk ((by rw [hg]; exact (below_size (by repeat (first | (with_reducible first | exact HB.out | apply below_alloc | apply pw_below_drewN | apply below_drew1 | refine below_set ?_ GE195.out | refine below_set ?_ GE199.out) | exact HB.out))) : w.heap.size ≤ gb201))
              have n5_ := Aside0.mk ((by rw [hg]; exact (below_size (by repeat (first | (with_reducible first | exact HB.out | apply below_alloc | apply pw_below_drewN | apply below_drew1 | refine below_set ?_ GE195.out | refine below_set ?_ GE199.out) | exact HB.out))) : w.heap.size ≤ gb201))
              have n6_ := Aside0.mk ((by rw [hg]; exact Nat.ne_of_lt (blk_lt (g := gb195) (o := .cells #[.int .u8 a0_0, .int .u8 a0_1, .int .u8 a0_2, .int .u8 a0_3, .int .i32 a0_4] 23 (0, 0)) BK195.out) : gb195 ≠ gb201))
              have n7_ := Aside0.mk ((by rw [hg]; exact Nat.ne_of_gt (blk_lt (g := gb195) (o := .cells #[.int .u8 a0_0, .int .u8 a0_1, .int .u8 a0_2, .int .u8 a0_3, .int .i32 a0_4] 23 (0, 0)) BK195.out) : gb201 ≠ gb195))
              have n8_ := Aside0.mk ((by rw [hg]; exact Nat.ne_of_lt (blk_lt (g := gb199) (o := .cells #[.int .u8 0, .int .u8 0, .int .u8 0, .int .u8 0, .int .i32 0] 23 (0, 0)) BK199.out) : gb199 ≠ gb201))
              have n9_ := Aside0.mk ((by rw [hg]; exact Nat.ne_of_gt (blk_lt (g := gb199) (o := .cells #[.int .u8 0, .int .u8 0, .int .u8 0, .int .u8 0, .int .i32 0] 23 (0, 0)) BK199.out) : gb201 ≠ gb199))
              clear BK195
              clear BK199
              clear HB
              have BK195 := n0_
              have BK199 := n1_
              have HB := n2_
              have BK201 := n3_
              have GW201 := n4_
              have GE201 := n5_
              have NB195_201 := n6_
              have NB201_195 := n7_
              have NB199_201 := n8_
              have NB201_199 := n9_
              clear n0_ n1_ n2_ n3_ n4_ n5_ n6_ n7_ n8_ n9_
              clear hb hbox hg
              refine hK.out _ _ ⟨(blk_cell BK195.out 0).trans rfl, (blk_cell BK195.out 1).trans rfl, (blk_cell BK195.out 2).trans rfl, (blk_cell BK195.out 3).trans rfl, (blk_cell BK195.out 4).trans rfl⟩ (fun hHeld => ?_)
              clear hK K
              refine norm_ (a' := ?_) ?_ ?_
              rotate_left
              ·show Act.put _ (some 15) _ = _
               simp only [Act.put, List.setIfInBounds_toArray, List.set_cons_zero, List.set_cons_succ, i64_w, i32_w]
               rfl
              exact norm_ (by first | (simp only [putAll, Act.put, List.setIfInBounds_toArray, List.set_cons_zero, List.set_cons_succ]; done) | (simp only [putAll, Act.put, List.setIfInBounds_toArray, List.set_cons_zero, List.set_cons_succ]; rfl)) (hJ4_6 (gb199, gb201) _ ⟨hHeld, BK195.out, BK199.out, BK201.out, GW199.out, GE199.out, NB195_199.out, NB199_195.out, NB201_199.out, NB199_201.out, GW201.out, GE201.out, NB195_201.out, NB201_195.out, (by repeat (first | (with_reducible first | exact HB.out | apply below_alloc | apply pw_below_drewN | apply below_drew1 | refine below_set ?_ GE195.out | refine below_set ?_ GE199.out | refine below_set ?_ GE201.out) | exact HB.out))⟩)
             ·skip
              refine box_step ?hg (N := 16) ?hd (cs := #[.int .u8 0, .int .u8 0, .int .u8 0, .int .u8 0, .int .i32 0]) (t := 23) ?hr ?_; (case hd => rfl); (case hg => rfl); (case hr => first | (go_simp; done) | (go_simp; rfl))
              intro gb202 hg w30 hbox hb
              have n0_ := Aside0.mk (blk_below (g := gb195) (o := .cells #[.int .u8 a0_0, .int .u8 a0_1, .int .u8 a0_2, .int .u8 a0_3, .int .i32 a0_4] 23 (0, 0)) BK195.out hb)
              have n1_ := Aside0.mk (blk_below (g := gb199) (o := .cells #[.int .u8 0, .int .u8 0, .int .u8 0, .int .u8 0, .int .i32 0] 23 (0, 0)) BK199.out hb)
              have n2_ := Aside0.mk (below_step (by repeat (first | (with_reducible first | exact HB.out | apply below_alloc | apply pw_below_drewN | apply below_drew1 | refine below_set ?_ GE195.out | refine below_set ?_ GE199.out) | exact HB.out)) hb)
              have n3_ := Aside0.mk (hbox)
              have n4_ := Aside0.mk ((by rw [hg]; exact (below_size (by repeat (first | (with_reducible first | exact HB.out | apply below_alloc | apply pw_below_drewN | apply below_drew1 | refine below_set ?_ GE195.out | refine below_set ?_ GE199.out) | exact HB.out))) : w.heap.size ≤ gb202))
              have n5_ := Aside0.mk ((by rw [hg]; exact (below_size (by repeat (first | (with_reducible first | exact HB.out | apply below_alloc | apply pw_below_drewN | apply below_drew1 | refine below_set ?_ GE195.out | refine below_set ?_ GE199.out) | exact HB.out))) : w.heap.size ≤ gb202))
              have n6_ := Aside0.mk ((by rw [hg]; exact Nat.ne_of_lt (blk_lt (g := gb195) (o := .cells #[.int .u8 a0_0, .int .u8 a0_1, .int .u8 a0_2, .int .u8 a0_3, .int .i32 a0_4] 23 (0, 0)) BK195.out) : gb195 ≠ gb202))
              have n7_ := Aside0.mk ((by rw [hg]; exact Nat.ne_of_gt (blk_lt (g := gb195) (o := .cells #[.int .u8 a0_0, .int .u8 a0_1, .int .u8 a0_2, .int .u8 a0_3, .int .i32 a0_4] 23 (0, 0)) BK195.out) : gb202 ≠ gb195))
              have n8_ := Aside0.mk ((by rw [hg]; exact Nat.ne_of_lt (blk_lt (g := gb199) (o := .cells #[.int .u8 0, .int .u8 0, .int .u8 0, .int .u8 0, .int .i32 0] 23 (0, 0)) BK199.out) : gb199 ≠ gb202))
              have n9_ := Aside0.mk ((by rw [hg]; exact Nat.ne_of_gt (blk_lt (g := gb199) (o := .cells #[.int .u8 0, .int .u8 0, .int .u8 0, .int .u8 0, .int .i32 0] 23 (0, 0)) BK199.out) : gb202 ≠ gb199))
              clear BK195
              clear BK199
              clear HB
              have BK195 := n0_
              have BK199 := n1_
              have HB := n2_
              have BK202 := n3_
              have GW202 := n4_
              have GE202 := n5_
              have NB195_202 := n6_
              have NB202_195 := n7_
              have NB199_202 := n8_
              have NB202_199 := n9_
              clear n0_ n1_ n2_ n3_ n4_ n5_ n6_ n7_ n8_ n9_
              clear hb hbox hg
              refine hK.out _ _ ⟨(blk_cell BK195.out 0).trans rfl, (blk_cell BK195.out 1).trans rfl, (blk_cell BK195.out 2).trans rfl, (blk_cell BK195.out 3).trans rfl, (blk_cell BK195.out 4).trans rfl⟩ (fun hHeld => ?_)
              clear hK K
              refine norm_ (a' := ?_) ?_ ?_
              rotate_left
              ·show Act.put _ (some 16) _ = _
               simp only [Act.put, List.setIfInBounds_toArray, List.set_cons_zero, List.set_cons_succ, i64_w, i32_w]
               rfl
              exact norm_ (by first | (simp only [putAll, Act.put, List.setIfInBounds_toArray, List.set_cons_zero, List.set_cons_succ]; done) | (simp only [putAll, Act.put, List.setIfInBounds_toArray, List.set_cons_zero, List.set_cons_succ]; rfl)) (hJ4_7 (gb199, gb202) _ ⟨hHeld, BK195.out, BK199.out, BK202.out, GW199.out, GE199.out, NB195_199.out, NB199_195.out, NB202_199.out, NB199_202.out, GW202.out, GE202.out, NB195_202.out, NB202_195.out, (by repeat (first | (with_reducible first | exact HB.out | apply below_alloc | apply pw_below_drewN | apply below_drew1 | refine below_set ?_ GE195.out | refine below_set ?_ GE199.out | refine below_set ?_ GE202.out) | exact HB.out))⟩)
           ·skip
            rintro ⟨gb201, gb202⟩ w30 ⟨hS_, h0_, h1_, h2_, h3_, h4_, h5_, h6_, h7_, h8_, h9_, h10_, h11_, h12_, h13_⟩
            have n0_ : Aside0 (w30.heap[gb195]? = some (.cells #[.int .u8 a0_0, .int .u8 a0_1, .int .u8 a0_2, .int .u8 a0_3, .int .i32 a0_4] 23 (0, 0))) := ⟨h0_⟩
            have n1_ : Aside0 (w30.heap[gb201]? = some (.cells #[.int .u8 0, .int .u8 0, .int .u8 0, .int .u8 0, .int .i32 0] 23 (0, 0))) := ⟨h1_⟩
            have n2_ : Aside0 (w30.heap[gb202]? = some (.cells #[.int .u8 0, .int .u8 0, .int .u8 0, .int .u8 0, .int .i32 0] 23 (0, 0))) := ⟨h2_⟩
            have n3_ : Aside0 (w.heap.size ≤ gb201) := ⟨h3_⟩
            have n4_ : Aside0 (w.heap.size ≤ gb201) := ⟨h4_⟩
            have n5_ : Aside0 (gb195 ≠ gb201) := ⟨h5_⟩
            have n6_ : Aside0 (gb201 ≠ gb195) := ⟨h6_⟩
            have n7_ : Aside0 (gb202 ≠ gb201) := ⟨h7_⟩
            have n8_ : Aside0 (gb201 ≠ gb202) := ⟨h8_⟩
            have n9_ : Aside0 (w.heap.size ≤ gb202) := ⟨h9_⟩
            have n10_ : Aside0 (w.heap.size ≤ gb202) := ⟨h10_⟩
            have n11_ : Aside0 (gb195 ≠ gb202) := ⟨h11_⟩
            have n12_ : Aside0 (gb202 ≠ gb195) := ⟨h12_⟩
            have n13_ : Aside0 (Below w.heap.size w w30) := ⟨h13_⟩
            clear BK195
            clear HB
            clear h0_ h1_ h2_ h3_ h4_ h5_ h6_ h7_ h8_ h9_ h10_ h11_ h12_ h13_
            have BK195 := n0_
            have BK201 := n1_
            have BK202 := n2_
            have GW201 := n3_
            have GE201 := n4_
            have NB195_201 := n5_
            have NB201_195 := n6_
            have NB202_201 := n7_
            have NB201_202 := n8_
            have GW202 := n9_
            have GE202 := n10_
            have NB195_202 := n11_
            have NB202_195 := n12_
            have HB := n13_
            clear n0_ n1_ n2_ n3_ n4_ n5_ n6_ n7_ n8_ n9_ n10_ n11_ n12_ n13_
            have hHeld : w30.cell? ⟨gb195, 0, none⟩ = some (.int .u8 a0_0) ∧ w30.cell? ⟨gb195, 1, none⟩ = some (.int .u8 a0_1) ∧ w30.cell? ⟨gb195, 2, none⟩ = some (.int .u8 a0_2) ∧ w30.cell? ⟨gb195, 3, none⟩ = some (.int .u8 a0_3) ∧ w30.cell? ⟨gb195, 4, none⟩ = some (.int .i32 a0_4) := hS_
            refine norm_ (a' := ?_) ?_ ?_
            rotate_left
            ·simp only [putAll, Act.put, List.setIfInBounds_toArray, List.set_cons_zero, List.set_cons_succ]
             rfl
            refine two_ (i := 4) (j := 5) (Ni := some 13) (Nj := some 14) zb9_PxF zb10_PxF rfl rfl rfl rfl (two_of HT_.out (by kernel_rfl)) (by decide) (by decide) (fun K hK => ?_) (fun K hK => ?_)
            ·skip
             refine box_step ?hg (N := 13) ?hd (cs := #[.int .u8 0, .int .u8 0, .int .u8 0, .int .u8 0, .int .i32 0]) (t := 23) ?hr ?_; (case hd => rfl); (case hg => rfl); (case hr => first | (go_simp; done) | (go_simp; rfl))
             intro gb199 hg w31 hbox hb
             have n0_ := Aside0.mk (blk_below (g := gb195) (o := .cells #[.int .u8 a0_0, .int .u8 a0_1, .int .u8 a0_2, .int .u8 a0_3, .int .i32 a0_4] 23 (0, 0)) BK195.out hb)
             have n1_ := Aside0.mk (blk_below (g := gb201) (o := .cells #[.int .u8 0, .int .u8 0, .int .u8 0, .int .u8 0, .int .i32 0] 23 (0, 0)) BK201.out hb)
             have n2_ := Aside0.mk (blk_below (g := gb202) (o := .cells #[.int .u8 0, .int .u8 0, .int .u8 0, .int .u8 0, .int .i32 0] 23 (0, 0)) BK202.out hb)
             have n3_ := Aside0.mk (below_step (by repeat (first | (with_reducible first | exact HB.out | apply below_alloc | apply pw_below_drewN | apply below_drew1 | refine below_set ?_ GE195.out | refine below_set ?_ GE201.out | refine below_set ?_ GE202.out) | exact HB.out)) hb)
             have n4_ := Aside0.mk (hbox)
             have n5_ := Aside0.mk ((by rw [hg]; exact (below_size (by repeat (first | (with_reducible first | exact HB.out | apply below_alloc | apply pw_below_drewN | apply below_drew1 | refine below_set ?_ GE195.out | refine below_set ?_ GE201.out | refine below_set ?_ GE202.out) | exact HB.out))) : w.heap.size ≤ gb199))
             have n6_ := Aside0.mk ((by rw [hg]; exact (below_size (by repeat (first | (with_reducible first | exact HB.out | apply below_alloc | apply pw_below_drewN | apply below_drew1 | refine below_set ?_ GE195.out | refine below_set ?_ GE201.out | refine below_set ?_ GE202.out) | exact HB.out))) : w.heap.size ≤ gb199))
             have n7_ := Aside0.mk ((by rw [hg]; exact Nat.ne_of_lt (blk_lt (g := gb195) (o := .cells #[.int .u8 a0_0, .int .u8 a0_1, .int .u8 a0_2, .int .u8 a0_3, .int .i32 a0_4] 23 (0, 0)) BK195.out) : gb195 ≠ gb199))
             have n8_ := Aside0.mk ((by rw [hg]; exact Nat.ne_of_gt (blk_lt (g := gb195) (o := .cells #[.int .u8 a0_0, .int .u8 a0_1, .int .u8 a0_2, .int .u8 a0_3, .int .i32 a0_4] 23 (0, 0)) BK195.out) : gb199 ≠ gb195))
             have n9_ := Aside0.mk ((by rw [hg]; exact Nat.ne_of_lt (blk_lt (g := gb201) (o := .cells #[.int .u8 0, .int .u8 0, .int .u8 0, .int .u8 0, .int .i32 0] 23 (0, 0)) BK201.out) : gb201 ≠ gb199))
             have n10_ := Aside0.mk ((by rw [hg]; exact Nat.ne_of_gt (blk_lt (g := gb201) (o := .cells #[.int .u8 0, .int .u8 0, .int .u8 0, .int .u8 0, .int .i32 0] 23 (0, 0)) BK201.out) : gb199 ≠ gb201))
             have n11_ := Aside0.mk ((by rw [hg]; exact Nat.ne_of_lt (blk_lt (g := gb202) (o := .cells #[.int .u8 0, .int .u8 0, .int .u8 0, .int .u8 0, .int .i32 0] 23 (0, 0)) BK202.out) : gb202 ≠ gb199))
             have n12_ := Aside0.mk ((by rw [hg]; exact Nat.ne_of_gt (blk_lt (g := gb202) (o := .cells #[.int .u8 0, .int .u8 0, .int .u8 0, .int .u8 0, .int .i32 0] 23 (0, 0)) BK202.out) : gb199 ≠ gb202))
             clear BK195
             clear BK201
             clear BK202
             clear HB
             have BK195 := n0_
             have BK201 := n1_
             have BK202 := n2_
             have HB := n3_
             have BK199 := n4_
             have GW199 := n5_
             have GE199 := n6_
             have NB195_199 := n7_
             have NB199_195 := n8_
             have NB201_199 := n9_
             have NB199_201 := n10_
             have NB202_199 := n11_
             have NB199_202 := n12_
             clear n0_ n1_ n2_ n3_ n4_ n5_ n6_ n7_ n8_ n9_ n10_ n11_ n12_
             clear hb hbox hg
             refine hK.out _ _ ⟨(blk_cell BK195.out 0).trans rfl, (blk_cell BK195.out 1).trans rfl, (blk_cell BK195.out 2).trans rfl, (blk_cell BK195.out 3).trans rfl, (blk_cell BK195.out 4).trans rfl⟩ (fun hHeld => ?_)
             clear hK K
             refine norm_ (a' := ?_) ?_ ?_
             rotate_left
             ·show Act.put _ (some 13) _ = _
              simp only [Act.put, List.setIfInBounds_toArray, List.set_cons_zero, List.set_cons_succ, i64_w, i32_w]
              rfl
             exact norm_ (by first | (simp only [putAll, Act.put, List.setIfInBounds_toArray, List.set_cons_zero, List.set_cons_succ]; done) | (simp only [putAll, Act.put, List.setIfInBounds_toArray, List.set_cons_zero, List.set_cons_succ]; rfl)) (hJ4_6_7 (gb199, gb201, gb202) _ ⟨hHeld, BK195.out, BK199.out, BK201.out, BK202.out, GW199.out, GE199.out, NB195_199.out, NB199_195.out, NB201_199.out, NB199_201.out, NB202_199.out, NB199_202.out, GW201.out, GE201.out, NB195_201.out, NB201_195.out, NB202_201.out, NB201_202.out, GW202.out, GE202.out, NB195_202.out, NB202_195.out, (by repeat (first | (with_reducible first | exact HB.out | apply below_alloc | apply pw_below_drewN | apply below_drew1 | refine below_set ?_ GE195.out | refine below_set ?_ GE201.out | refine below_set ?_ GE202.out | refine below_set ?_ GE199.out) | exact HB.out))⟩)
            ·skip
             refine box_step ?hg (N := 14) ?hd (cs := #[.int .u8 0, .int .u8 0, .int .u8 0, .int .u8 0, .int .i32 0]) (t := 23) ?hr ?_; (case hd => rfl); (case hg => rfl); (case hr => first | (go_simp; done) | (go_simp; rfl))
             intro gb200 hg w31 hbox hb
             have n0_ := Aside0.mk (blk_below (g := gb195) (o := .cells #[.int .u8 a0_0, .int .u8 a0_1, .int .u8 a0_2, .int .u8 a0_3, .int .i32 a0_4] 23 (0, 0)) BK195.out hb)
             have n1_ := Aside0.mk (blk_below (g := gb201) (o := .cells #[.int .u8 0, .int .u8 0, .int .u8 0, .int .u8 0, .int .i32 0] 23 (0, 0)) BK201.out hb)
             have n2_ := Aside0.mk (blk_below (g := gb202) (o := .cells #[.int .u8 0, .int .u8 0, .int .u8 0, .int .u8 0, .int .i32 0] 23 (0, 0)) BK202.out hb)
             have n3_ := Aside0.mk (below_step (by repeat (first | (with_reducible first | exact HB.out | apply below_alloc | apply pw_below_drewN | apply below_drew1 | refine below_set ?_ GE195.out | refine below_set ?_ GE201.out | refine below_set ?_ GE202.out) | exact HB.out)) hb)
             have n4_ := Aside0.mk (hbox)
             have n5_ := Aside0.mk ((by rw [hg]; exact (below_size (by repeat (first | (with_reducible first | exact HB.out | apply below_alloc | apply pw_below_drewN | apply below_drew1 | refine below_set ?_ GE195.out | refine below_set ?_ GE201.out | refine below_set ?_ GE202.out) | exact HB.out))) : w.heap.size ≤ gb200))
             have n6_ := Aside0.mk ((by rw [hg]; exact (below_size (by repeat (first | (with_reducible first | exact HB.out | apply below_alloc | apply pw_below_drewN | apply below_drew1 | refine below_set ?_ GE195.out | refine below_set ?_ GE201.out | refine below_set ?_ GE202.out) | exact HB.out))) : w.heap.size ≤ gb200))
             have n7_ := Aside0.mk ((by rw [hg]; exact Nat.ne_of_lt (blk_lt (g := gb195) (o := .cells #[.int .u8 a0_0, .int .u8 a0_1, .int .u8 a0_2, .int .u8 a0_3, .int .i32 a0_4] 23 (0, 0)) BK195.out) : gb195 ≠ gb200))
             have n8_ := Aside0.mk ((by rw [hg]; exact Nat.ne_of_gt (blk_lt (g := gb195) (o := .cells #[.int .u8 a0_0, .int .u8 a0_1, .int .u8 a0_2, .int .u8 a0_3, .int .i32 a0_4] 23 (0, 0)) BK195.out) : gb200 ≠ gb195))
             have n9_ := Aside0.mk ((by rw [hg]; exact Nat.ne_of_lt (blk_lt (g := gb201) (o := .cells #[.int .u8 0, .int .u8 0, .int .u8 0, .int .u8 0, .int .i32 0] 23 (0, 0)) BK201.out) : gb201 ≠ gb200))
             have n10_ := Aside0.mk ((by rw [hg]; exact Nat.ne_of_gt (blk_lt (g := gb201) (o := .cells #[.int .u8 0, .int .u8 0, .int .u8 0, .int .u8 0, .int .i32 0] 23 (0, 0)) BK201.out) : gb200 ≠ gb201))
             have n11_ := Aside0.mk ((by rw [hg]; exact Nat.ne_of_lt (blk_lt (g := gb202) (o := .cells #[.int .u8 0, .int .u8 0, .int .u8 0, .int .u8 0, .int .i32 0] 23 (0, 0)) BK202.out) : gb202 ≠ gb200))
             have n12_ := Aside0.mk ((by rw [hg]; exact Nat.ne_of_gt (blk_lt (g := gb202) (o := .cells #[.int .u8 0, .int .u8 0, .int .u8 0, .int .u8 0, .int .i32 0] 23 (0, 0)) BK202.out) : gb200 ≠ gb202))
             clear BK195
             clear BK201
             clear BK202
             clear HB
             have BK195 := n0_
             have BK201 := n1_
             have BK202 := n2_
             have HB := n3_
             have BK200 := n4_
             have GW200 := n5_
             have GE200 := n6_
             have NB195_200 := n7_
             have NB200_195 := n8_
             have NB201_200 := n9_
             have NB200_201 := n10_
             have NB202_200 := n11_
             have NB200_202 := n12_
             clear n0_ n1_ n2_ n3_ n4_ n5_ n6_ n7_ n8_ n9_ n10_ n11_ n12_
             clear hb hbox hg
             refine hK.out _ _ ⟨(blk_cell BK195.out 0).trans rfl, (blk_cell BK195.out 1).trans rfl, (blk_cell BK195.out 2).trans rfl, (blk_cell BK195.out 3).trans rfl, (blk_cell BK195.out 4).trans rfl⟩ (fun hHeld => ?_)
             clear hK K
             refine norm_ (a' := ?_) ?_ ?_
             rotate_left
             ·show Act.put _ (some 14) _ = _
              simp only [Act.put, List.setIfInBounds_toArray, List.set_cons_zero, List.set_cons_succ, i64_w, i32_w]
              rfl
             exact norm_ (by first | (simp only [putAll, Act.put, List.setIfInBounds_toArray, List.set_cons_zero, List.set_cons_succ]; done) | (simp only [putAll, Act.put, List.setIfInBounds_toArray, List.set_cons_zero, List.set_cons_succ]; rfl)) (hJ5_6_7 (gb200, gb201, gb202) _ ⟨hHeld, BK195.out, BK200.out, BK201.out, BK202.out, GW200.out, GE200.out, NB195_200.out, NB200_195.out, NB201_200.out, NB200_201.out, NB202_200.out, NB200_202.out, GW201.out, GE201.out, NB195_201.out, NB201_195.out, NB202_201.out, NB201_202.out, GW202.out, GE202.out, NB195_202.out, NB202_195.out, (by repeat (first | (with_reducible first | exact HB.out | apply below_alloc | apply pw_below_drewN | apply below_drew1 | refine below_set ?_ GE195.out | refine below_set ?_ GE201.out | refine below_set ?_ GE202.out | refine below_set ?_ GE200.out) | exact HB.out))⟩)
          ·skip
           rintro ⟨gb200, gb202⟩ w30 ⟨hS_, h0_, h1_, h2_, h3_, h4_, h5_, h6_, h7_, h8_, h9_, h10_, h11_, h12_, h13_⟩
           have n0_ : Aside0 (w30.heap[gb195]? = some (.cells #[.int .u8 a0_0, .int .u8 a0_1, .int .u8 a0_2, .int .u8 a0_3, .int .i32 a0_4] 23 (0, 0))) := ⟨h0_⟩
           have n1_ : Aside0 (w30.heap[gb200]? = some (.cells #[.int .u8 0, .int .u8 0, .int .u8 0, .int .u8 0, .int .i32 0] 23 (0, 0))) := ⟨h1_⟩
           have n2_ : Aside0 (w30.heap[gb202]? = some (.cells #[.int .u8 0, .int .u8 0, .int .u8 0, .int .u8 0, .int .i32 0] 23 (0, 0))) := ⟨h2_⟩
           have n3_ : Aside0 (w.heap.size ≤ gb200) := ⟨h3_⟩
           have n4_ : Aside0 (w.heap.size ≤ gb200) := ⟨h4_⟩
           have n5_ : Aside0 (gb195 ≠ gb200) := ⟨h5_⟩
           have n6_ : Aside0 (gb200 ≠ gb195) := ⟨h6_⟩
           have n7_ : Aside0 (gb202 ≠ gb200) := ⟨h7_⟩
           have n8_ : Aside0 (gb200 ≠ gb202) := ⟨h8_⟩
           have n9_ : Aside0 (w.heap.size ≤ gb202) := ⟨h9_⟩
           have n10_ : Aside0 (w.heap.size ≤ gb202) := ⟨h10_⟩
           have n11_ : Aside0 (gb195 ≠ gb202) := ⟨h11_⟩
           have n12_ : Aside0 (gb202 ≠ gb195) := ⟨h12_⟩
           have n13_ : Aside0 (Below w.heap.size w w30) := ⟨h13_⟩
           clear BK195
           clear HB
           clear h0_ h1_ h2_ h3_ h4_ h5_ h6_ h7_ h8_ h9_ h10_ h11_ h12_ h13_
           have BK195 := n0_
           have BK200 := n1_
           have BK202 := n2_
           have GW200 := n3_
           have GE200 := n4_
           have NB195_200 := n5_
           have NB200_195 := n6_
           have NB202_200 := n7_
           have NB200_202 := n8_
           have GW202 := n9_
           have GE202 := n10_
           have NB195_202 := n11_
           have NB202_195 := n12_
           have HB := n13_
           clear n0_ n1_ n2_ n3_ n4_ n5_ n6_ n7_ n8_ n9_ n10_ n11_ n12_ n13_
           have hHeld : w30.cell? ⟨gb195, 0, none⟩ = some (.int .u8 a0_0) ∧ w30.cell? ⟨gb195, 1, none⟩ = some (.int .u8 a0_1) ∧ w30.cell? ⟨gb195, 2, none⟩ = some (.int .u8 a0_2) ∧ w30.cell? ⟨gb195, 3, none⟩ = some (.int .u8 a0_3) ∧ w30.cell? ⟨gb195, 4, none⟩ = some (.int .i32 a0_4) := hS_
           refine norm_ (a' := ?_) ?_ ?_
           rotate_left
           ·simp only [putAll, Act.put, List.setIfInBounds_toArray, List.set_cons_zero, List.set_cons_succ]
            rfl
           refine two_ (i := 4) (j := 6) (Ni := some 13) (Nj := some 15) zb8_PxF zb10_PxF rfl rfl rfl rfl (two_of HT_.out (by kernel_rfl)) (by decide) (by decide) (fun K hK => ?_) (fun K hK => ?_)
           ·skip
            refine box_step ?hg (N := 13) ?hd (cs := #[.int .u8 0, .int .u8 0, .int .u8 0, .int .u8 0, .int .i32 0]) (t := 23) ?hr ?_; (case hd => rfl); (case hg => rfl); (case hr => first | (go_simp; done) | (go_simp; rfl))
            intro gb199 hg w31 hbox hb
            have n0_ := Aside0.mk (blk_below (g := gb195) (o := .cells #[.int .u8 a0_0, .int .u8 a0_1, .int .u8 a0_2, .int .u8 a0_3, .int .i32 a0_4] 23 (0, 0)) BK195.out hb)
            have n1_ := Aside0.mk (blk_below (g := gb200) (o := .cells #[.int .u8 0, .int .u8 0, .int .u8 0, .int .u8 0, .int .i32 0] 23 (0, 0)) BK200.out hb)
            have n2_ := Aside0.mk (blk_below (g := gb202) (o := .cells #[.int .u8 0, .int .u8 0, .int .u8 0, .int .u8 0, .int .i32 0] 23 (0, 0)) BK202.out hb)
            have n3_ := Aside0.mk (below_step (by repeat (first | (with_reducible first | exact HB.out | apply below_alloc | apply pw_below_drewN | apply below_drew1 | refine below_set ?_ GE195.out | refine below_set ?_ GE200.out | refine below_set ?_ GE202.out) | exact HB.out)) hb)
            have n4_ := Aside0.mk (hbox)
            have n5_ := Aside0.mk ((by rw [hg]; exact (below_size (by repeat (first | (with_reducible first | exact HB.out | apply below_alloc | apply pw_below_drewN | apply below_drew1 | refine below_set ?_ GE195.out | refine below_set ?_ GE200.out | refine below_set ?_ GE202.out) | exact HB.out))) : w.heap.size ≤ gb199))
            have n6_ := Aside0.mk ((by rw [hg]; exact (below_size (by repeat (first | (with_reducible first | exact HB.out | apply below_alloc | apply pw_below_drewN | apply below_drew1 | refine below_set ?_ GE195.out | refine below_set ?_ GE200.out | refine below_set ?_ GE202.out) | exact HB.out))) : w.heap.size ≤ gb199))
            have n7_ := Aside0.mk ((by rw [hg]; exact Nat.ne_of_lt (blk_lt (g := gb195) (o := .cells #[.int .u8 a0_0, .int .u8 a0_1, .int .u8 a0_2, .int .u8 a0_3, .int .i32 a0_4] 23 (0, 0)) BK195.out) : gb195 ≠ gb199))
            have n8_ := Aside0.mk ((by rw [hg]; exact Nat.ne_of_gt (blk_lt (g := gb195) (o := .cells #[.int .u8 a0_0, .int .u8 a0_1, .int .u8 a0_2, .int .u8 a0_3, .int .i32 a0_4] 23 (0, 0)) BK195.out) : gb199 ≠ gb195))
            have n9_ := Aside0.mk ((by rw [hg]; exact Nat.ne_of_lt (blk_lt (g := gb200) (o := .cells #[.int .u8 0, .int .u8 0, .int .u8 0, .int .u8 0, .int .i32 0] 23 (0, 0)) BK200.out) : gb200 ≠ gb199))
            have n10_ := Aside0.mk ((by rw [hg]; exact Nat.ne_of_gt (blk_lt (g := gb200) (o := .cells #[.int .u8 0, .int .u8 0, .int .u8 0, .int .u8 0, .int .i32 0] 23 (0, 0)) BK200.out) : gb199 ≠ gb200))
            have n11_ := Aside0.mk ((by rw [hg]; exact Nat.ne_of_lt (blk_lt (g := gb202) (o := .cells #[.int .u8 0, .int .u8 0, .int .u8 0, .int .u8 0, .int .i32 0] 23 (0, 0)) BK202.out) : gb202 ≠ gb199))
            have n12_ := Aside0.mk ((by rw [hg]; exact Nat.ne_of_gt (blk_lt (g := gb202) (o := .cells #[.int .u8 0, .int .u8 0, .int .u8 0, .int .u8 0, .int .i32 0] 23 (0, 0)) BK202.out) : gb199 ≠ gb202))
            clear BK195
            clear BK200
            clear BK202
            clear HB
            have BK195 := n0_
            have BK200 := n1_
            have BK202 := n2_
            have HB := n3_
            have BK199 := n4_
            have GW199 := n5_
            have GE199 := n6_
            have NB195_199 := n7_
            have NB199_195 := n8_
            have NB200_199 := n9_
            have NB199_200 := n10_
            have NB202_199 := n11_
            have NB199_202 := n12_
            clear n0_ n1_ n2_ n3_ n4_ n5_ n6_ n7_ n8_ n9_ n10_ n11_ n12_
            clear hb hbox hg
            refine hK.out _ _ ⟨(blk_cell BK195.out 0).trans rfl, (blk_cell BK195.out 1).trans rfl, (blk_cell BK195.out 2).trans rfl, (blk_cell BK195.out 3).trans rfl, (blk_cell BK195.out 4).trans rfl⟩ (fun hHeld => ?_)
            clear hK K
            refine norm_ (a' := ?_) ?_ ?_
            rotate_left
            ·show Act.put _ (some 13) _ = _
             simp only [Act.put, List.setIfInBounds_toArray, List.set_cons_zero, List.set_cons_succ, i64_w, i32_w]
             rfl
            exact norm_ (by first | (simp only [putAll, Act.put, List.setIfInBounds_toArray, List.set_cons_zero, List.set_cons_succ]; done) | (simp only [putAll, Act.put, List.setIfInBounds_toArray, List.set_cons_zero, List.set_cons_succ]; rfl)) (hJ4_5_7 (gb199, gb200, gb202) _ ⟨hHeld, BK195.out, BK199.out, BK200.out, BK202.out, GW199.out, GE199.out, NB195_199.out, NB199_195.out, NB200_199.out, NB199_200.out, NB202_199.out, NB199_202.out, GW200.out, GE200.out, NB195_200.out, NB200_195.out, NB202_200.out, NB200_202.out, GW202.out, GE202.out, NB195_202.out, NB202_195.out, (by repeat (first | (with_reducible first | exact HB.out | apply below_alloc | apply pw_below_drewN | apply below_drew1 | refine below_set ?_ GE195.out | refine below_set ?_ GE200.out | refine below_set ?_ GE202.out | refine below_set ?_ GE199.out) | exact HB.out))⟩)
           ·skip
            refine box_step ?hg (N := 15) ?hd (cs := #[.int .u8 0, .int .u8 0, .int .u8 0, .int .u8 0, .int .i32 0]) (t := 23) ?hr ?_; (case hd => rfl); (case hg => rfl); (case hr => first | (go_simp; done) | (go_simp; rfl))
            intro gb201 hg w31 hbox hb
            have n0_ := Aside0.mk (blk_below (g := gb195) (o := .cells #[.int .u8 a0_0, .int .u8 a0_1, .int .u8 a0_2, .int .u8 a0_3, .int .i32 a0_4] 23 (0, 0)) BK195.out hb)
            have n1_ := Aside0.mk (blk_below (g := gb200) (o := .cells #[.int .u8 0, .int .u8 0, .int .u8 0, .int .u8 0, .int .i32 0] 23 (0, 0)) BK200.out hb)
            have n2_ := Aside0.mk (blk_below (g := gb202) (o := .cells #[.int .u8 0, .int .u8 0, .int .u8 0, .int .u8 0, .int .i32 0] 23 (0, 0)) BK202.out hb)
            have n3_ := Aside0.mk (below_step (by repeat (first | (with_reducible first | exact HB.out | apply below_alloc | apply pw_below_drewN | apply below_drew1 | refine below_set ?_ GE195.out | refine below_set ?_ GE200.out | refine below_set ?_ GE202.out) | exact HB.out)) hb)
            have n4_ := Aside0.mk (hbox)
            have n5_ := Aside0.mk ((by rw [hg]; exact (below_size (by repeat (first | (with_reducible first | exact HB.out | apply below_alloc | apply pw_below_drewN | apply below_drew1 | refine below_set ?_ GE195.out | refine below_set ?_ GE200.out | refine below_set ?_ GE202.out) | exact HB.out))) : w.heap.size ≤ gb201))
            have n6_ := Aside0.mk ((by rw [hg]; exact (below_size (by repeat (first | (with_reducible first | exact HB.out | apply below_alloc | apply pw_below_drewN | apply below_drew1 | refine below_set ?_ GE195.out | refine below_set ?_ GE200.out | refine below_set ?_ GE202.out) | exact HB.out))) : w.heap.size ≤ gb201))
            have n7_ := Aside0.mk ((by rw [hg]; exact Nat.ne_of_lt (blk_lt (g := gb195) (o := .cells #[.int .u8 a0_0, .int .u8 a0_1, .int .u8 a0_2, .int .u8 a0_3, .int .i32 a0_4] 23 (0, 0)) BK195.out) : gb195 ≠ gb201))
            have n8_ := Aside0.mk ((by rw [hg]; exact Nat.ne_of_gt (blk_lt (g := gb195) (o := .cells #[.int .u8 a0_0, .int .u8 a0_1, .int .u8 a0_2, .int .u8 a0_3, .int .i32 a0_4] 23 (0, 0)) BK195.out) : gb201 ≠ gb195))
            have n9_ := Aside0.mk ((by rw [hg]; exact Nat.ne_of_lt (blk_lt (g := gb200) (o := .cells #[.int .u8 0, .int .u8 0, .int .u8 0, .int .u8 0, .int .i32 0] 23 (0, 0)) BK200.out) : gb200 ≠ gb201))
            have n10_ := Aside0.mk ((by rw [hg]; exact Nat.ne_of_gt (blk_lt (g := gb200) (o := .cells #[.int .u8 0, .int .u8 0, .int .u8 0, .int .u8 0, .int .i32 0] 23 (0, 0)) BK200.out) : gb201 ≠ gb200))
            have n11_ := Aside0.mk ((by rw [hg]; exact Nat.ne_of_lt (blk_lt (g := gb202) (o := .cells #[.int .u8 0, .int .u8 0, .int .u8 0, .int .u8 0, .int .i32 0] 23 (0, 0)) BK202.out) : gb202 ≠ gb201))
            have n12_ := Aside0.mk ((by rw [hg]; exact Nat.ne_of_gt (blk_lt (g := gb202) (o := .cells #[.int .u8 0, .int .u8 0, .int .u8 0, .int .u8 0, .int .i32 0] 23 (0, 0)) BK202.out) : gb201 ≠ gb202))
            clear BK195
            clear BK200
            clear BK202
            clear HB
            have BK195 := n0_
            have BK200 := n1_
            have BK202 := n2_
            have HB := n3_
            have BK201 := n4_
            have GW201 := n5_
            have GE201 := n6_
            have NB195_201 := n7_
            have NB201_195 := n8_
            have NB200_201 := n9_
            have NB201_200 := n10_
            have NB202_201 := n11_
            have NB201_202 := n12_
            clear n0_ n1_ n2_ n3_ n4_ n5_ n6_ n7_ n8_ n9_ n10_ n11_ n12_
            clear hb hbox hg
            refine hK.out _ _ ⟨(blk_cell BK195.out 0).trans rfl, (blk_cell BK195.out 1).trans rfl, (blk_cell BK195.out 2).trans rfl, (blk_cell BK195.out 3).trans rfl, (blk_cell BK195.out 4).trans rfl⟩ (fun hHeld => ?_)
            clear hK K
            refine norm_ (a' := ?_) ?_ ?_
            rotate_left
            ·show Act.put _ (some 15) _ = _
             simp only [Act.put, List.setIfInBounds_toArray, List.set_cons_zero, List.set_cons_succ, i64_w, i32_w]
             rfl
            exact norm_ (by first | (simp only [putAll, Act.put, List.setIfInBounds_toArray, List.set_cons_zero, List.set_cons_succ]; done) | (simp only [putAll, Act.put, List.setIfInBounds_toArray, List.set_cons_zero, List.set_cons_succ]; rfl)) (hJ5_6_7 (gb200, gb201, gb202) _ ⟨hHeld, BK195.out, BK200.out, BK201.out, BK202.out, GW200.out, GE200.out, NB195_200.out, NB200_195.out, NB201_200.out, NB200_201.out, NB202_200.out, NB200_202.out, GW201.out, GE201.out, NB195_201.out, NB201_195.out, NB202_201.out, NB201_202.out, GW202.out, GE202.out, NB195_202.out, NB202_195.out, (by repeat (first | (with_reducible first | exact HB.out | apply below_alloc | apply pw_below_drewN | apply below_drew1 | refine below_set ?_ GE195.out | refine below_set ?_ GE200.out | refine below_set ?_ GE202.out | refine below_set ?_ GE201.out) | exact HB.out))⟩)
         ·skip
          rintro ⟨gb200, gb201⟩ w30 ⟨hS_, h0_, h1_, h2_, h3_, h4_, h5_, h6_, h7_, h8_, h9_, h10_, h11_, h12_, h13_⟩
          have n0_ : Aside0 (w30.heap[gb195]? = some (.cells #[.int .u8 a0_0, .int .u8 a0_1, .int .u8 a0_2, .int .u8 a0_3, .int .i32 a0_4] 23 (0, 0))) := ⟨h0_⟩
          have n1_ : Aside0 (w30.heap[gb200]? = some (.cells #[.int .u8 0, .int .u8 0, .int .u8 0, .int .u8 0, .int .i32 0] 23 (0, 0))) := ⟨h1_⟩
          have n2_ : Aside0 (w30.heap[gb201]? = some (.cells #[.int .u8 0, .int .u8 0, .int .u8 0, .int .u8 0, .int .i32 0] 23 (0, 0))) := ⟨h2_⟩
          have n3_ : Aside0 (w.heap.size ≤ gb200) := ⟨h3_⟩
          have n4_ : Aside0 (w.heap.size ≤ gb200) := ⟨h4_⟩
          have n5_ : Aside0 (gb195 ≠ gb200) := ⟨h5_⟩
          have n6_ : Aside0 (gb200 ≠ gb195) := ⟨h6_⟩
          have n7_ : Aside0 (gb201 ≠ gb200) := ⟨h7_⟩
          have n8_ : Aside0 (gb200 ≠ gb201) := ⟨h8_⟩
          have n9_ : Aside0 (w.heap.size ≤ gb201) := ⟨h9_⟩
          have n10_ : Aside0 (w.heap.size ≤ gb201) := ⟨h10_⟩
          have n11_ : Aside0 (gb195 ≠ gb201) := ⟨h11_⟩
          have n12_ : Aside0 (gb201 ≠ gb195) := ⟨h12_⟩
          have n13_ : Aside0 (Below w.heap.size w w30) := ⟨h13_⟩
          clear BK195
          clear HB
          clear h0_ h1_ h2_ h3_ h4_ h5_ h6_ h7_ h8_ h9_ h10_ h11_ h12_ h13_
          have BK195 := n0_
          have BK200 := n1_
          have BK201 := n2_
          have GW200 := n3_
          have GE200 := n4_
          have NB195_200 := n5_
          have NB200_195 := n6_
          have NB201_200 := n7_
          have NB200_201 := n8_
          have GW201 := n9_
          have GE201 := n10_
          have NB195_201 := n11_
          have NB201_195 := n12_
          have HB := n13_
          clear n0_ n1_ n2_ n3_ n4_ n5_ n6_ n7_ n8_ n9_ n10_ n11_ n12_ n13_
          have hHeld : w30.cell? ⟨gb195, 0, none⟩ = some (.int .u8 a0_0) ∧ w30.cell? ⟨gb195, 1, none⟩ = some (.int .u8 a0_1) ∧ w30.cell? ⟨gb195, 2, none⟩ = some (.int .u8 a0_2) ∧ w30.cell? ⟨gb195, 3, none⟩ = some (.int .u8 a0_3) ∧ w30.cell? ⟨gb195, 4, none⟩ = some (.int .i32 a0_4) := hS_
          refine norm_ (a' := ?_) ?_ ?_
          rotate_left
          ·simp only [putAll, Act.put, List.setIfInBounds_toArray, List.set_cons_zero, List.set_cons_succ]
           rfl
          refine two_ (i := 4) (j := 7) (Ni := some 13) (Nj := some 16) zb7_PxF zb10_PxF rfl rfl rfl rfl (two_of HT_.out (by kernel_rfl)) (by decide) (by decide) (fun K hK => ?_) (fun K hK => ?_)
          ·skip
           refine box_step ?hg (N := 13) ?hd (cs := #[.int .u8 0, .int .u8 0, .int .u8 0, .int .u8 0, .int .i32 0]) (t := 23) ?hr ?_; (case hd => rfl); (case hg => rfl); (case hr => first | (go_simp; done) | (go_simp; rfl))
           intro gb199 hg w31 hbox hb
           have n0_ := Aside0.mk (blk_below (g := gb195) (o := .cells #[.int .u8 a0_0, .int .u8 a0_1, .int .u8 a0_2, .int .u8 a0_3, .int .i32 a0_4] 23 (0, 0)) BK195.out hb)
           have n1_ := Aside0.mk (blk_below (g := gb200) (o := .cells #[.int .u8 0, .int .u8 0, .int .u8 0, .int .u8 0, .int .i32 0] 23 (0, 0)) BK200.out hb)
           have n2_ := Aside0.mk (blk_below (g := gb201) (o := .cells #[.int .u8 0, .int .u8 0, .int .u8 0, .int .u8 0, .int .i32 0] 23 (0, 0)) BK201.out hb)
           have n3_ := Aside0.mk (below_step (by repeat (first | (with_reducible first | exact HB.out | apply below_alloc | apply pw_below_drewN | apply below_drew1 | refine below_set ?_ GE195.out | refine below_set ?_ GE200.out | refine below_set ?_ GE201.out) | exact HB.out)) hb)
           have n4_ := Aside0.mk (hbox)
           have n5_ := Aside0.mk ((by rw [hg]; exact (below_size (by repeat (first | (with_reducible first | exact HB.out | apply below_alloc | apply pw_below_drewN | apply below_drew1 | refine below_set ?_ GE195.out | refine below_set ?_ GE200.out | refine below_set ?_ GE201.out) | exact HB.out))) : w.heap.size ≤ gb199))
           have n6_ := Aside0.mk ((by rw [hg]; exact (below_size (by repeat (first | (with_reducible first | exact HB.out | apply below_alloc | apply pw_below_drewN | apply below_drew1 | refine below_set ?_ GE195.out | refine below_set ?_ GE200.out | refine below_set ?_ GE201.out) | exact HB.out))) : w.heap.size ≤ gb199))
           have n7_ := Aside0.mk ((by rw [hg]; exact Nat.ne_of_lt (blk_lt (g := gb195) (o := .cells #[.int .u8 a0_0, .int .u8 a0_1, .int .u8 a0_2, .int .u8 a0_3, .int .i32 a0_4] 23 (0, 0)) BK195.out) : gb195 ≠ gb199))
           have n8_ := Aside0.mk ((by rw [hg]; exact Nat.ne_of_gt (blk_lt (g := gb195) (o := .cells #[.int .u8 a0_0, .int .u8 a0_1, .int .u8 a0_2, .int .u8 a0_3, .int .i32 a0_4] 23 (0, 0)) BK195.out) : gb199 ≠ gb195))
           have n9_ := Aside0.mk ((by rw [hg]; exact Nat.ne_of_lt (blk_lt (g := gb200) (o := .cells #[.int .u8 0, .int .u8 0, .int .u8 0, .int .u8 0, .int .i32 0] 23 (0, 0)) BK200.out) : gb200 ≠ gb199))
           have n10_ := Aside0.mk ((by rw [hg]; exact Nat.ne_of_gt (blk_lt (g := gb200) (o := .cells #[.int .u8 0, .int .u8 0, .int .u8 0, .int .u8 0, .int .i32 0] 23 (0, 0)) BK200.out) : gb199 ≠ gb200))
           have n11_ := Aside0.mk ((by rw [hg]; exact Nat.ne_of_lt (blk_lt (g := gb201) (o := .cells #[.int .u8 0, .int .u8 0, .int .u8 0, .int .u8 0, .int .i32 0] 23 (0, 0)) BK201.out) : gb201 ≠ gb199))
           have n12_ := Aside0.mk ((by rw [hg]; exact Nat.ne_of_gt (blk_lt (g := gb201) (o := .cells #[.int .u8 0, .int .u8 0, .int .u8 0, .int .u8 0, .int .i32 0] 23 (0, 0)) BK201.out) : gb199 ≠ gb201))
           clear BK195
           clear BK200
           clear BK201
           clear HB
           have BK195 := n0_
           have BK200 := n1_
           have BK201 := n2_
           have HB := n3_
           have BK199 := n4_
           have GW199 := n5_
           have GE199 := n6_
           have NB195_199 := n7_
           have NB199_195 := n8_
           have NB200_199 := n9_
           have NB199_200 := n10_
           have NB201_199 := n11_
           have NB199_201 := n12_
           clear n0_ n1_ n2_ n3_ n4_ n5_ n6_ n7_ n8_ n9_ n10_ n11_ n12_
           clear hb hbox hg
           refine hK.out _ _ ⟨(blk_cell BK195.out 0).trans rfl, (blk_cell BK195.out 1).trans rfl, (blk_cell BK195.out 2).trans rfl, (blk_cell BK195.out 3).trans rfl, (blk_cell BK195.out 4).trans rfl⟩ (fun hHeld => ?_)
           clear hK K
           refine norm_ (a' := ?_) ?_ ?_
           rotate_left
           ·show Act.put _ (some 13) _ = _
            simp only [Act.put, List.setIfInBounds_toArray, List.set_cons_zero, List.set_cons_succ, i64_w, i32_w]
            rfl
           exact norm_ (by first | (simp only [putAll, Act.put, List.setIfInBounds_toArray, List.set_cons_zero, List.set_cons_succ]; done) | (simp only [putAll, Act.put, List.setIfInBounds_toArray, List.set_cons_zero, List.set_cons_succ]; rfl)) (hJ4_5_6 (gb199, gb200, gb201) _ ⟨hHeld, BK195.out, BK199.out, BK200.out, BK201.out, GW199.out, GE199.out, NB195_199.out, NB199_195.out, NB200_199.out, NB199_200.out, NB201_199.out, NB199_201.out, GW200.out, GE200.out, NB195_200.out, NB200_195.out, NB201_200.out, NB200_201.out, GW201.out, GE201.out, NB195_201.out, NB201_195.out, (by repeat (first | (with_reducible first | exact HB.out | apply below_alloc | apply pw_below_drewN | apply below_drew1 | refine below_set ?_ GE195.out | refine below_set ?_ GE200.out | refine below_set ?_ GE201.out | refine below_set ?_ GE199.out) | exact HB.out))⟩)
          ·skip
           refine box_step ?hg (N := 16) ?hd (cs := #[.int .u8 0, .int .u8 0, .int .u8 0, .int .u8 0, .int .i32 0]) (t := 23) ?hr ?_; (case hd => rfl); (case hg => rfl); (case hr => first | (go_simp; done) | (go_simp; rfl))
           intro gb202 hg w31 hbox hb
           have n0_ := Aside0.mk (blk_below (g := gb195) (o := .cells #[.int .u8 a0_0, .int .u8 a0_1, .int .u8 a0_2, .int .u8 a0_3, .int .i32 a0_4] 23 (0, 0)) BK195.out hb)
           have n1_ := Aside0.mk (blk_below (g := gb200) (o := .cells #[.int .u8 0, .int .u8 0, .int .u8 0, .int .u8 0, .int .i32 0] 23 (0, 0)) BK200.out hb)
           have n2_ := Aside0.mk (blk_below (g := gb201) (o := .cells #[.int .u8 0, .int .u8 0, .int .u8 0, .int .u8 0, .int .i32 0] 23 (0, 0)) BK201.out hb)
           have n3_ := Aside0.mk (below_step (by repeat (first | (with_reducible first | exact HB.out | apply below_alloc | apply pw_below_drewN | apply below_drew1 | refine below_set ?_ GE195.out | refine below_set ?_ GE200.out | refine below_set ?_ GE201.out) | exact HB.out)) hb)
           have n4_ := Aside0.mk (hbox)
           have n5_ := Aside0.mk ((by rw [hg]; exact (below_size (by repeat (first | (with_reducible first | exact HB.out | apply below_alloc | apply pw_below_drewN | apply below_drew1 | refine below_set ?_ GE195.out | refine below_set ?_ GE200.out | refine below_set ?_ GE201.out) | exact HB.out))) : w.heap.size ≤ gb202))
           have n6_ := Aside0.mk ((by rw [hg]; exact (below_size (by repeat (first | (with_reducible first | exact HB.out | apply below_alloc | apply pw_below_drewN | apply below_drew1 | refine below_set ?_ GE195.out | refine below_set ?_ GE200.out | refine below_set ?_ GE201.out) | exact HB.out))) : w.heap.size ≤ gb202))
           have n7_ := Aside0.mk ((by rw [hg]; exact Nat.ne_of_lt (blk_lt (g := gb195) (o := .cells #[.int .u8 a0_0, .int .u8 a0_1, .int .u8 a0_2, .int .u8 a0_3, .int .i32 a0_4] 23 (0, 0)) BK195.out) : gb195 ≠ gb202))
           have n8_ := Aside0.mk ((by rw [hg]; exact Nat.ne_of_gt (blk_lt (g := gb195) (o := .cells #[.int .u8 a0_0, .int .u8 a0_1, .int .u8 a0_2, .int .u8 a0_3, .int .i32 a0_4] 23 (0, 0)) BK195.out) : gb202 ≠ gb195))
           have n9_ := Aside0.mk ((by rw [hg]; exact Nat.ne_of_lt (blk_lt (g := gb200) (o := .cells #[.int .u8 0, .int .u8 0, .int .u8 0, .int .u8 0, .int .i32 0] 23 (0, 0)) BK200.out) : gb200 ≠ gb202))
           have n10_ := Aside0.mk ((by rw [hg]; exact Nat.ne_of_gt (blk_lt (g := gb200) (o := .cells #[.int .u8 0, .int .u8 0, .int .u8 0, .int .u8 0, .int .i32 0] 23 (0, 0)) BK200.out) : gb202 ≠ gb200))
           have n11_ := Aside0.mk ((by rw [hg]; exact Nat.ne_of_lt (blk_lt (g := gb201) (o := .cells #[.int .u8 0, .int .u8 0, .int .u8 0, .int .u8 0, .int .i32 0] 23 (0, 0)) BK201.out) : gb201 ≠ gb202))
           have n12_ := Aside0.mk ((by rw [hg]; exact Nat.ne_of_gt (blk_lt (g := gb201) (o := .cells #[.int .u8 0, .int .u8 0, .int .u8 0, .int .u8 0, .int .i32 0] 23 (0, 0)) BK201.out) : gb202 ≠ gb201))
           clear BK195
           clear BK200
           clear BK201
           clear HB
           have BK195 := n0_
           have BK200 := n1_
           have BK201 := n2_
           have HB := n3_
           have BK202 := n4_
           have GW202 := n5_
           have GE202 := n6_
           have NB195_202 := n7_
           have NB202_195 := n8_
           have NB200_202 := n9_
           have NB202_200 := n10_
           have NB201_202 := n11_
           have NB202_201 := n12_
           clear n0_ n1_ n2_ n3_ n4_ n5_ n6_ n7_ n8_ n9_ n10_ n11_ n12_
           clear hb hbox hg
           refine hK.out _ _ ⟨(blk_cell BK195.out 0).trans rfl, (blk_cell BK195.out 1).trans rfl, (blk_cell BK195.out 2).trans rfl, (blk_cell BK195.out 3).trans rfl, (blk_cell BK195.out 4).trans rfl⟩ (fun hHeld => ?_)
           clear hK K
           refine norm_ (a' := ?_) ?_ ?_
           rotate_left
           ·show Act.put _ (some 16) _ = _
            simp only [Act.put, List.setIfInBounds_toArray, List.set_cons_zero, List.set_cons_succ, i64_w, i32_w]
            rfl
           exact norm_ (by first | (simp only [putAll, Act.put, List.setIfInBounds_toArray, List.set_cons_zero, List.set_cons_succ]; done) | (simp only [putAll, Act.put, List.setIfInBounds_toArray, List.set_cons_zero, List.set_cons_succ]; rfl)) (hJ5_6_7 (gb200, gb201, gb202) _ ⟨hHeld, BK195.out, BK200.out, BK201.out, BK202.out, GW200.out, GE200.out, NB195_200.out, NB200_195.out, NB201_200.out, NB200_201.out, NB202_200.out, NB200_202.out, GW201.out, GE201.out, NB195_201.out, NB201_195.out, NB202_201.out, NB201_202.out, GW202.out, GE202.out, NB195_202.out, NB202_195.out, (by repeat (first | (with_reducible first | exact HB.out | apply below_alloc | apply pw_below_drewN | apply below_drew1 | refine below_set ?_ GE195.out | refine below_set ?_ GE200.out | refine below_set ?_ GE201.out | refine below_set ?_ GE202.out) | exact HB.out))⟩)
        ·skip
         rintro ⟨gb199, gb202⟩ w30 ⟨hS_, h0_, h1_, h2_, h3_, h4_, h5_, h6_, h7_, h8_, h9_, h10_, h11_, h12_, h13_⟩
         have n0_ : Aside0 (w30.heap[gb195]? = some (.cells #[.int .u8 a0_0, .int .u8 a0_1, .int .u8 a0_2, .int .u8 a0_3, .int .i32 a0_4] 23 (0, 0))) := ⟨h0_⟩
         have n1_ : Aside0 (w30.heap[gb199]? = some (.cells #[.int .u8 0, .int .u8 0, .int .u8 0, .int .u8 0, .int .i32 0] 23 (0, 0))) := ⟨h1_⟩
         have n2_ : Aside0 (w30.heap[gb202]? = some (.cells #[.int .u8 0, .int .u8 0, .int .u8 0, .int .u8 0, .int .i32 0] 23 (0, 0))) := ⟨h2_⟩
         have n3_ : Aside0 (w.heap.size ≤ gb199) := ⟨h3_⟩
         have n4_ : Aside0 (w.heap.size ≤ gb199) := ⟨h4_⟩
         have n5_ : Aside0 (gb195 ≠ gb199) := ⟨h5_⟩
         have n6_ : Aside0 (gb199 ≠ gb195) := ⟨h6_⟩
         have n7_ : Aside0 (gb202 ≠ gb199) := ⟨h7_⟩
         have n8_ : Aside0 (gb199 ≠ gb202) := ⟨h8_⟩
         have n9_ : Aside0 (w.heap.size ≤ gb202) := ⟨h9_⟩
         have n10_ : Aside0 (w.heap.size ≤ gb202) := ⟨h10_⟩
         have n11_ : Aside0 (gb195 ≠ gb202) := ⟨h11_⟩
         have n12_ : Aside0 (gb202 ≠ gb195) := ⟨h12_⟩
         have n13_ : Aside0 (Below w.heap.size w w30) := ⟨h13_⟩
         clear BK195
         clear HB
         clear h0_ h1_ h2_ h3_ h4_ h5_ h6_ h7_ h8_ h9_ h10_ h11_ h12_ h13_
         have BK195 := n0_
         have BK199 := n1_
         have BK202 := n2_
         have GW199 := n3_
         have GE199 := n4_
         have NB195_199 := n5_
         have NB199_195 := n6_
         have NB202_199 := n7_
         have NB199_202 := n8_
         have GW202 := n9_
         have GE202 := n10_
         have NB195_202 := n11_
         have NB202_195 := n12_
         have HB := n13_
         clear n0_ n1_ n2_ n3_ n4_ n5_ n6_ n7_ n8_ n9_ n10_ n11_ n12_ n13_
         have hHeld : w30.cell? ⟨gb195, 0, none⟩ = some (.int .u8 a0_0) ∧ w30.cell? ⟨gb195, 1, none⟩ = some (.int .u8 a0_1) ∧ w30.cell? ⟨gb195, 2, none⟩ = some (.int .u8 a0_2) ∧ w30.cell? ⟨gb195, 3, none⟩ = some (.int .u8 a0_3) ∧ w30.cell? ⟨gb195, 4, none⟩ = some (.int .i32 a0_4) := hS_
         refine norm_ (a' := ?_) ?_ ?_
         rotate_left
         ·simp only [putAll, Act.put, List.setIfInBounds_toArray, List.set_cons_zero, List.set_cons_succ]
          rfl
         refine two_ (i := 5) (j := 6) (Ni := some 14) (Nj := some 15) zb8_PxF zb9_PxF rfl rfl rfl rfl (two_of HT_.out (by kernel_rfl)) (by decide) (by decide) (fun K hK => ?_) (fun K hK => ?_)
         ·skip
          refine box_step ?hg (N := 14) ?hd (cs := #[.int .u8 0, .int .u8 0, .int .u8 0, .int .u8 0, .int .i32 0]) (t := 23) ?hr ?_; (case hd => rfl); (case hg => rfl); (case hr => first | (go_simp; done) | (go_simp; rfl))
          intro gb200 hg w31 hbox hb
          have n0_ := Aside0.mk (blk_below (g := gb195) (o := .cells #[.int .u8 a0_0, .int .u8 a0_1, .int .u8 a0_2, .int .u8 a0_3, .int .i32 a0_4] 23 (0, 0)) BK195.out hb)
          have n1_ := Aside0.mk (blk_below (g := gb199) (o := .cells #[.int .u8 0, .int .u8 0, .int .u8 0, .int .u8 0, .int .i32 0] 23 (0, 0)) BK199.out hb)
          have n2_ := Aside0.mk (blk_below (g := gb202) (o := .cells #[.int .u8 0, .int .u8 0, .int .u8 0, .int .u8 0, .int .i32 0] 23 (0, 0)) BK202.out hb)
          have n3_ := Aside0.mk (below_step (by repeat (first | (with_reducible first | exact HB.out | apply below_alloc | apply pw_below_drewN | apply below_drew1 | refine below_set ?_ GE195.out | refine below_set ?_ GE199.out | refine below_set ?_ GE202.out) | exact HB.out)) hb)
          have n4_ := Aside0.mk (hbox)
          have n5_ := Aside0.mk ((by rw [hg]; exact (below_size (by repeat (first | (with_reducible first | exact HB.out | apply below_alloc | apply pw_below_drewN | apply below_drew1 | refine below_set ?_ GE195.out | refine below_set ?_ GE199.out | refine below_set ?_ GE202.out) | exact HB.out))) : w.heap.size ≤ gb200))
          have n6_ := Aside0.mk ((by rw [hg]; exact (below_size (by repeat (first | (with_reducible first | exact HB.out | apply below_alloc | apply pw_below_drewN | apply below_drew1 | refine below_set ?_ GE195.out | refine below_set ?_ GE199.out | refine below_set ?_ GE202.out) | exact HB.out))) : w.heap.size ≤ gb200))
          have n7_ := Aside0.mk ((by rw [hg]; exact Nat.ne_of_lt (blk_lt (g := gb195) (o := .cells #[.int .u8 a0_0, .int .u8 a0_1, .int .u8 a0_2, .int .u8 a0_3, .int .i32 a0_4] 23 (0, 0)) BK195.out) : gb195 ≠ gb200))
          have n8_ := Aside0.mk ((by rw [hg]; exact Nat.ne_of_gt (blk_lt (g := gb195) (o := .cells #[.int .u8 a0_0, .int .u8 a0_1, .int .u8 a0_2, .int .u8 a0_3, .int .i32 a0_4] 23 (0, 0)) BK195.out) : gb200 ≠ gb195))
          have n9_ := Aside0.mk ((by rw [hg]; exact Nat.ne_of_lt (blk_lt (g := gb199) (o := .cells #[.int .u8 0, .int .u8 0, .int .u8 0, .int .u8 0, .int .i32 0] 23 (0, 0)) BK199.out) : gb199 ≠ gb200))
          have n10_ := Aside0.mk ((by rw [hg]; exact Nat.ne_of_gt (blk_lt (g := gb199) (o := .cells #[.int .u8 0, .int .u8 0, .int .u8 0, .int .u8 0, .int .i32 0] 23 (0, 0)) BK199.out) : gb200 ≠ gb199))
          have n11_ := Aside0.mk ((by rw [hg]; exact Nat.ne_of_lt (blk_lt (g := gb202) (o := .cells #[.int .u8 0, .int .u8 0, .int .u8 0, .int .u8 0, .int .i32 0] 23 (0, 0)) BK202.out) : gb202 ≠ gb200))
          have n12_ := Aside0.mk ((by rw [hg]; exact Nat.ne_of_gt (blk_lt (g := gb202) (o := .cells #[.int .u8 0, .int .u8 0, .int .u8 0, .int .u8 0, .int .i32 0] 23 (0, 0)) BK202.out) : gb200 ≠ gb202))
          clear BK195
          clear BK199
          clear BK202
          clear HB
          have BK195 := n0_
          have BK199 := n1_
          have BK202 := n2_
          have HB := n3_
          have BK200 := n4_
          have GW200 := n5_
          have GE200 := n6_
          have NB195_200 := n7_
          have NB200_195 := n8_
          have NB199_200 := n9_
          have NB200_199 := n10_
          have NB202_200 := n11_
          have NB200_202 := n12_
          clear n0_ n1_ n2_ n3_ n4_ n5_ n6_ n7_ n8_ n9_ n10_ n11_ n12_
          clear hb hbox hg
          refine hK.out _ _ ⟨(blk_cell BK195.out 0).trans rfl, (blk_cell BK195.out 1).trans rfl, (blk_cell BK195.out 2).trans rfl, (blk_cell BK195.out 3).trans rfl, (blk_cell BK195.out 4).trans rfl⟩ (fun hHeld => ?_)
          clear hK K
          refine norm_ (a' := ?_) ?_ ?_
          rotate_left
          ·show Act.put _ (some 14) _ = _
           simp only [Act.put, List.setIfInBounds_toArray, List.set_cons_zero, List.set_cons_succ, i64_w, i32_w]
           rfl
          exact norm_ (by first | (simp only [putAll, Act.put, List.setIfInBounds_toArray, List.set_cons_zero, List.set_cons_succ]; done) | (simp only [putAll, Act.put, List.setIfInBounds_toArray, List.set_cons_zero, List.set_cons_succ]; rfl)) (hJ4_5_7 (gb199, gb200, gb202) _ ⟨hHeld, BK195.out, BK199.out, BK200.out, BK202.out, GW199.out, GE199.out, NB195_199.out, NB199_195.out, NB200_199.out, NB199_200.out, NB202_199.out, NB199_202.out, GW200.out, GE200.out, NB195_200.out, NB200_195.out, NB202_200.out, NB200_202.out, GW202.out, GE202.out, NB195_202.out, NB202_195.out, (by repeat (first | (with_reducible first | exact HB.out | apply below_alloc | apply pw_below_drewN | apply below_drew1 | refine below_set ?_ GE195.out | refine below_set ?_ GE199.out | refine below_set ?_ GE202.out | refine below_set ?_ GE200.out) | exact HB.out))⟩)
         ·skip
          refine box_step ?hg (N := 15) ?hd (cs := #[.int .u8 0, .int .u8 0, .int .u8 0, .int .u8 0, .int .i32 0]) (t := 23) ?hr ?_; (case hd => rfl); (case hg => rfl); (case hr => first | (go_simp; done) | (go_simp; rfl))
          intro gb201 hg w31 hbox hb
          have n0_ := Aside0.mk (blk_below (g := gb195) (o := .cells #[.int .u8 a0_0, .int .u8 a0_1, .int .u8 a0_2, .int .u8 a0_3, .int .i32 a0_4] 23 (0, 0)) BK195.out hb)
          have n1_ := Aside0.mk (blk_below (g := gb199) (o := .cells #[.int .u8 0, .int .u8 0, .int .u8 0, .int .u8 0, .int .i32 0] 23 (0, 0)) BK199.out hb)
          have n2_ := Aside0.mk (blk_below (g := gb202) (o := .cells #[.int .u8 0, .int .u8 0, .int .u8 0, .int .u8 0, .int .i32 0] 23 (0, 0)) BK202.out hb)
          have n3_ := Aside0.mk (below_step (by repeat (first | (with_reducible first | exact HB.out | apply below_alloc | apply pw_below_drewN | apply below_drew1 | refine below_set ?_ GE195.out | refine below_set ?_ GE199.out | refine below_set ?_ GE202.out) | exact HB.out)) hb)
          have n4_ := Aside0.mk (hbox)
          have n5_ := Aside0.mk ((by rw [hg]; exact (below_size (by repeat (first | (with_reducible first | exact HB.out | apply below_alloc | apply pw_below_drewN | apply below_drew1 | refine below_set ?_ GE195.out | refine below_set ?_ GE199.out | refine below_set ?_ GE202.out) | exact HB.out))) : w.heap.size ≤ gb201))
          have n6_ := Aside0.mk ((by rw [hg]; exact (below_size (by repeat (first | (with_reducible first | exact HB.out | apply below_alloc | apply pw_below_drewN | apply below_drew1 | refine below_set ?_ GE195.out | refine below_set ?_ GE199.out | refine below_set ?_ GE202.out) | exact HB.out))) : w.heap.size ≤ gb201))
          have n7_ := Aside0.mk ((by rw [hg]; exact Nat.ne_of_lt (blk_lt (g := gb195) (o := .cells #[.int .u8 a0_0, .int .u8 a0_1, .int .u8 a0_2, .int .u8 a0_3, .int .i32 a0_4] 23 (0, 0)) BK195.out) : gb195 ≠ gb201))
          have n8_ := Aside0.mk ((by rw [hg]; exact Nat.ne_of_gt (blk_lt (g := gb195) (o := .cells #[.int .u8 a0_0, .int .u8 a0_1, .int .u8 a0_2, .int .u8 a0_3, .int .i32 a0_4] 23 (0, 0)) BK195.out) : gb201 ≠ gb195))
          have n9_ := Aside0.mk ((by rw [hg]; exact Nat.ne_of_lt (blk_lt (g := gb199) (o := .cells #[.int .u8 0, .int .u8 0, .int .u8 0, .int .u8 0, .int .i32 0] 23 (0, 0)) BK199.out) : gb199 ≠ gb201))
          have n10_ := Aside0.mk ((by rw [hg]; exact Nat.ne_of_gt (blk_lt (g := gb199) (o := .cells #[.int .u8 0, .int .u8 0, .int .u8 0, .int .u8 0, .int .i32 0] 23 (0, 0)) BK199.out) : gb201 ≠ gb199))
          have n11_ := Aside0.mk ((by rw [hg]; exact Nat.ne_of_lt (blk_lt (g := gb202) (o := .cells #[.int .u8 0, .int .u8 0, .int .u8 0, .int .u8 0, .int .i32 0] 23 (0, 0)) BK202.out) : gb202 ≠ gb201))
          have n12_ := Aside0.mk ((by rw [hg]; exact Nat.ne_of_gt (blk_lt (g := gb202) (o := .cells #[.int .u8 0, .int .u8 0, .int .u8 0, .int .u8 0, .int .i32 0] 23 (0, 0)) BK202.out) : gb201 ≠ gb202))
          clear BK195
          clear BK199
          clear BK202
          clear HB
          have BK195 := n0_
          have BK199 := n1_
          have BK202 := n2_
          have HB := n3_
          have BK201 := n4_
          have GW201 := n5_
          have GE201 := n6_
          have NB195_201 := n7_
          have NB201_195 := n8_
          have NB199_201 := n9_
          have NB201_199 := n10_
          have NB202_201 := n11_
          have NB201_202 := n12_
          clear n0_ n1_ n2_ n3_ n4_ n5_ n6_ n7_ n8_ n9_ n10_ n11_ n12_
          clear hb hbox hg
          refine hK.out _ _ ⟨(blk_cell BK195.out 0).trans rfl, (blk_cell BK195.out 1).trans rfl, (blk_cell BK195.out 2).trans rfl, (blk_cell BK195.out 3).trans rfl, (blk_cell BK195.out 4).trans rfl⟩ (fun hHeld => ?_)
          clear hK K
          refine norm_ (a' := ?_) ?_ ?_
          rotate_left
          ·show Act.put _ (some 15) _ = _
           simp only [Act.put, List.setIfInBounds_toArray, List.set_cons_zero, List.set_cons_succ, i64_w, i32_w]
           rfl
          exact norm_ (by first | (simp only [putAll, Act.put, List.setIfInBounds_toArray, List.set_cons_zero, List.set_cons_succ]; done) | (simp only [putAll, Act.put, List.setIfInBounds_toArray, List.set_cons_zero, List.set_cons_succ]; rfl)) (hJ4_6_7 (gb199, gb201, gb202) _ ⟨hHeld, BK195.out, BK199.out, BK201.out, BK202.out, GW199.out, GE199.out, NB195_199.out, NB199_195.out, NB201_199.out, NB199_201.out, NB202_199.out, NB199_202.out, GW201.out, GE201.out, NB195_201.out, NB201_195.out, NB202_201.out, NB201_202.out, GW202.out, GE202.out, NB195_202.out, NB202_195.out, (by repeat (first | (with_reducible first | exact HB.out | apply below_alloc | apply pw_below_drewN | apply below_drew1 | refine below_set ?_ GE195.out | refine below_set ?_ GE199.out | refine below_set ?_ GE202.out | refine below_set ?_ GE201.out) | exact HB.out))⟩)
       ·skip
        rintro ⟨gb199, gb201⟩ w30 ⟨hS_, h0_, h1_, h2_, h3_, h4_, h5_, h6_, h7_, h8_, h9_, h10_, h11_, h12_, h13_⟩
        have n0_ : Aside0 (w30.heap[gb195]? = some (.cells #[.int .u8 a0_0, .int .u8 a0_1, .int .u8 a0_2, .int .u8 a0_3, .int .i32 a0_4] 23 (0, 0))) := ⟨h0_⟩
        have n1_ : Aside0 (w30.heap[gb199]? = some (.cells #[.int .u8 0, .int .u8 0, .int .u8 0, .int .u8 0, .int .i32 0] 23 (0, 0))) := ⟨h1_⟩
        have n2_ : Aside0 (w30.heap[gb201]? = some (.cells #[.int .u8 0, .int .u8 0, .int .u8 0, .int .u8 0, .int .i32 0] 23 (0, 0))) := ⟨h2_⟩
        have n3_ : Aside0 (w.heap.size ≤ gb199) := ⟨h3_⟩
        have n4_ : Aside0 (w.heap.size ≤ gb199) := ⟨h4_⟩
        have n5_ : Aside0 (gb195 ≠ gb199) := ⟨h5_⟩
        have n6_ : Aside0 (gb199 ≠ gb195) := ⟨h6_⟩
        have n7_ : Aside0 (gb201 ≠ gb199) := ⟨h7_⟩
        have n8_ : Aside0 (gb199 ≠ gb201) := ⟨h8_⟩
        have n9_ : Aside0 (w.heap.size ≤ gb201) := ⟨h9_⟩
        have n10_ : Aside0 (w.heap.size ≤ gb201) := ⟨h10_⟩
        have n11_ : Aside0 (gb195 ≠ gb201) := ⟨h11_⟩
        have n12_ : Aside0 (gb201 ≠ gb195) := ⟨h12_⟩
        have n13_ : Aside0 (Below w.heap.size w w30) := ⟨h13_⟩
        clear BK195
        clear HB
        clear h0_ h1_ h2_ h3_ h4_ h5_ h6_ h7_ h8_ h9_ h10_ h11_ h12_ h13_
        have BK195 := n0_
        have BK199 := n1_
        have BK201 := n2_
        have GW199 := n3_
        have GE199 := n4_
        have NB195_199 := n5_
        have NB199_195 := n6_
        have NB201_199 := n7_
        have NB199_201 := n8_
        have GW201 := n9_
        have GE201 := n10_
        have NB195_201 := n11_
        have NB201_195 := n12_
        have HB := n13_
        clear n0_ n1_ n2_ n3_ n4_ n5_ n6_ n7_ n8_ n9_ n10_ n11_ n12_ n13_
        have hHeld : w30.cell? ⟨gb195, 0, none⟩ = some (.int .u8 a0_0) ∧ w30.cell? ⟨gb195, 1, none⟩ = some (.int .u8 a0_1) ∧ w30.cell? ⟨gb195, 2, none⟩ = some (.int .u8 a0_2) ∧ w30.cell? ⟨gb195, 3, none⟩ = some (.int .u8 a0_3) ∧ w30.cell? ⟨gb195, 4, none⟩ = some (.int .i32 a0_4) := hS_
        refine norm_ (a' := ?_) ?_ ?_
        rotate_left
        ·simp only [putAll, Act.put, List.setIfInBounds_toArray, List.set_cons_zero, List.set_cons_succ]
         rfl
        refine two_ (i := 5) (j := 7) (Ni := some 14) (Nj := some 16) zb7_PxF zb9_PxF rfl rfl rfl rfl (two_of HT_.out (by kernel_rfl)) (by decide) (by decide) (fun K hK => ?_) (fun K hK => ?_)
        ·skip
         refine box_step ?hg (N := 14) ?hd (cs := #[.int .u8 0, .int .u8 0, .int .u8 0, .int .u8 0, .int .i32 0]) (t := 23) ?hr ?_; (case hd => rfl); (case hg => rfl); (case hr => first | (go_simp; done) | (go_simp; rfl))
         intro gb200 hg w31 hbox hb
         have n0_ := Aside0.mk (blk_below (g := gb195) (o := .cells #[.int .u8 a0_0, .int .u8 a0_1, .int .u8 a0_2, .int .u8 a0_3, .int .i32 a0_4] 23 (0, 0)) BK195.out hb)
         have n1_ := Aside0.mk (blk_below (g := gb199) (o := .cells #[.int .u8 0, .int .u8 0, .int .u8 0, .int .u8 0, .int .i32 0] 23 (0, 0)) BK199.out hb)
         have n2_ := Aside0.mk (blk_below (g := gb201) (o := .cells #[.int .u8 0, .int .u8 0, .int .u8 0, .int .u8 0, .int .i32 0] 23 (0, 0)) BK201.out hb)
         have n3_ := Aside0.mk (below_step (by repeat (first | (with_reducible first | exact HB.out | apply below_alloc | apply pw_below_drewN | apply below_drew1 | refine below_set ?_ GE195.out | refine below_set ?_ GE199.out | refine below_set ?_ GE201.out) | exact HB.out)) hb)
         have n4_ := Aside0.mk (hbox)
         have n5_ := Aside0.mk ((by rw [hg]; exact (below_size (by repeat (first | (with_reducible first | exact HB.out | apply below_alloc | apply pw_below_drewN | apply below_drew1 | refine below_set ?_ GE195.out | refine below_set ?_ GE199.out | refine below_set ?_ GE201.out) | exact HB.out))) : w.heap.size ≤ gb200))
         have n6_ := Aside0.mk ((by rw [hg]; exact (below_size (by repeat (first | (with_reducible first | exact HB.out | apply below_alloc | apply pw_below_drewN | apply below_drew1 | refine below_set ?_ GE195.out | refine below_set ?_ GE199.out | refine below_set ?_ GE201.out) | exact HB.out))) : w.heap.size ≤ gb200))
         have n7_ := Aside0.mk ((by rw [hg]; exact Nat.ne_of_lt (blk_lt (g := gb195) (o := .cells #[.int .u8 a0_0, .int .u8 a0_1, .int .u8 a0_2, .int .u8 a0_3, .int .i32 a0_4] 23 (0, 0)) BK195.out) : gb195 ≠ gb200))
         have n8_ := Aside0.mk ((by rw [hg]; exact Nat.ne_of_gt (blk_lt (g := gb195) (o := .cells #[.int .u8 a0_0, .int .u8 a0_1, .int .u8 a0_2, .int .u8 a0_3, .int .i32 a0_4] 23 (0, 0)) BK195.out) : gb200 ≠ gb195))
         have n9_ := Aside0.mk ((by rw [hg]; exact Nat.ne_of_lt (blk_lt (g := gb199) (o := .cells #[.int .u8 0, .int .u8 0, .int .u8 0, .int .u8 0, .int .i32 0] 23 (0, 0)) BK199.out) : gb199 ≠ gb200))
         have n10_ := Aside0.mk ((by rw [hg]; exact Nat.ne_of_gt (blk_lt (g := gb199) (o := .cells #[.int .u8 0, .int .u8 0, .int .u8 0, .int .u8 0, .int .i32 0] 23 (0, 0)) BK199.out) : gb200 ≠ gb199))
         have n11_ := Aside0.mk ((by rw [hg]; exact Nat.ne_of_lt (blk_lt (g := gb201) (o := .cells #[.int .u8 0, .int .u8 0, .int .u8 0, .int .u8 0, .int .i32 0] 23 (0, 0)) BK201.out) : gb201 ≠ gb200))
         have n12_ := Aside0.mk ((by rw [hg]; exact Nat.ne_of_gt (blk_lt (g := gb201) (o := .cells #[.int .u8 0, .int .u8 0, .int .u8 0, .int .u8 0, .int .i32 0] 23 (0, 0)) BK201.out) : gb200 ≠ gb201))
         clear BK195
         clear BK199
         clear BK201
         clear HB
         have BK195 := n0_
         have BK199 := n1_
         have BK201 := n2_
         have HB := n3_
         have BK200 := n4_
         have GW200 := n5_
         have GE200 := n6_
         have NB195_200 := n7_
         have NB200_195 := n8_
         have NB199_200 := n9_
         have NB200_199 := n10_
         have NB201_200 := n11_
         have NB200_201 := n12_
         clear n0_ n1_ n2_ n3_ n4_ n5_ n6_ n7_ n8_ n9_ n10_ n11_ n12_
         clear hb hbox hg
         refine hK.out _ _ ⟨(blk_cell BK195.out 0).trans rfl, (blk_cell BK195.out 1).trans rfl, (blk_cell BK195.out 2).trans rfl, (blk_cell BK195.out 3).trans rfl, (blk_cell BK195.out 4).trans rfl⟩ (fun hHeld => ?_)
         clear hK K
         refine norm_ (a' := ?_) ?_ ?_
         rotate_left
         ·show Act.put _ (some 14) _ = _
          simp only [Act.put, List.setIfInBounds_toArray, List.set_cons_zero, List.set_cons_succ, i64_w, i32_w]
          rfl
         exact norm_ (by first | (simp only [putAll, Act.put, List.setIfInBounds_toArray, List.set_cons_zero, List.set_cons_succ]; done) | (simp only [putAll, Act.put, List.setIfInBounds_toArray, List.set_cons_zero, List.set_cons_succ]; rfl)) (hJ4_5_6 (gb199, gb200, gb201) _ ⟨hHeld, BK195.out, BK199.out, BK200.out, BK201.out, GW199.out, GE199.out, NB195_199.out, NB199_195.out, NB200_199.out, NB199_200.out, NB201_199.out, NB199_201.out, GW200.out, GE200.out, NB195_200.out, NB200_195.out, NB201_200.out, NB200_201.out, GW201.out, GE201.out, NB195_201.out, NB201_195.out, (by repeat (first | (with_reducible first | exact HB.out | apply below_alloc | apply pw_below_drewN | apply below_drew1 | refine below_set ?_ GE195.out | refine below_set ?_ GE199.out | refine below_set ?_ GE201.out | refine below_set ?_ GE200.out) | exact HB.out))⟩)
        ·skip
         refine box_step ?hg (N := 16) ?hd (cs := #[.int .u8 0, .int .u8 0, .int .u8 0, .int .u8 0, .int .i32 0]) (t := 23) ?hr ?_; (case hd => rfl); (case hg => rfl); (case hr => first | (go_simp; done) | (go_simp; rfl))
         intro gb202 hg w31 hbox hb
         have n0_ := Aside0.mk (blk_below (g := gb195) (o := .cells #[.int .u8 a0_0, .int .u8 a0_1, .int .u8 a0_2, .int .u8 a0_3, .int .i32 a0_4] 23 (0, 0)) BK195.out hb)
         have n1_ := Aside0.mk (blk_below (g := gb199) (o := .cells #[.int .u8 0, .int .u8 0, .int .u8 0, .int .u8 0, .int .i32 0] 23 (0, 0)) BK199.out hb)
         have n2_ := Aside0.mk (blk_below (g := gb201) (o := .cells #[.int .u8 0, .int .u8 0, .int .u8 0, .int .u8 0, .int .i32 0] 23 (0, 0)) BK201.out hb)
         have n3_ := Aside0.mk (below_step (by repeat (first | (with_reducible first | exact HB.out | apply below_alloc | apply pw_below_drewN | apply below_drew1 | refine below_set ?_ GE195.out | refine below_set ?_ GE199.out | refine below_set ?_ GE201.out) | exact HB.out)) hb)
         have n4_ := Aside0.mk (hbox)
         have n5_ := Aside0.mk ((by rw [hg]; exact (below_size (by repeat (first | (with_reducible first | exact HB.out | apply below_alloc | apply pw_below_drewN | apply below_drew1 | refine below_set ?_ GE195.out | refine below_set ?_ GE199.out | refine below_set ?_ GE201.out) | exact HB.out))) : w.heap.size ≤ gb202))
         have n6_ := Aside0.mk ((by rw [hg]; exact (below_size (by repeat (first | (with_reducible first | exact HB.out | apply below_alloc | apply pw_below_drewN | apply below_drew1 | refine below_set ?_ GE195.out | refine below_set ?_ GE199.out | refine below_set ?_ GE201.out) | exact HB.out))) : w.heap.size ≤ gb202))
         have n7_ := Aside0.mk ((by rw [hg]; exact Nat.ne_of_lt (blk_lt (g := gb195) (o := .cells #[.int .u8 a0_0, .int .u8 a0_1, .int .u8 a0_2, .int .u8 a0_3, .int .i32 a0_4] 23 (0, 0)) BK195.out) : gb195 ≠ gb202))
         have n8_ := Aside0.mk ((by rw [hg]; exact Nat.ne_of_gt (blk_lt (g := gb195) (o := .cells #[.int .u8 a0_0, .int .u8 a0_1, .int .u8 a0_2, .int .u8 a0_3, .int .i32 a0_4] 23 (0, 0)) BK195.out) : gb202 ≠ gb195))
         have n9_ := Aside0.mk ((by rw [hg]; exact Nat.ne_of_lt (blk_lt (g := gb199) (o := .cells #[.int .u8 0, .int .u8 0, .int .u8 0, .int .u8 0, .int .i32 0] 23 (0, 0)) BK199.out) : gb199 ≠ gb202))
         have n10_ := Aside0.mk ((by rw [hg]; exact Nat.ne_of_gt (blk_lt (g := gb199) (o := .cells #[.int .u8 0, .int .u8 0, .int .u8 0, .int .u8 0, .int .i32 0] 23 (0, 0)) BK199.out) : gb202 ≠ gb199))
         have n11_ := Aside0.mk ((by rw [hg]; exact Nat.ne_of_lt (blk_lt (g := gb201) (o := .cells #[.int .u8 0, .int .u8 0, .int .u8 0, .int .u8 0, .int .i32 0] 23 (0, 0)) BK201.out) : gb201 ≠ gb202))
         have n12_ := Aside0.mk ((by rw [hg]; exact Nat.ne_of_gt (blk_lt (g := gb201) (o := .cells #[.int .u8 0, .int .u8 0, .int .u8 0, .int .u8 0, .int .i32 0] 23 (0, 0)) BK201.out) : gb202 ≠ gb201))
         clear BK195
         clear BK199
         clear BK201
         clear HB
         have BK195 := n0_
         have BK199 := n1_
         have BK201 := n2_
         have HB := n3_
         have BK202 := n4_
         have GW202 := n5_
         have GE202 := n6_
         have NB195_202 := n7_
         have NB202_195 := n8_
         have NB199_202 := n9_
         have NB202_199 := n10_
         have NB201_202 := n11_
         have NB202_201 := n12_
         clear n0_ n1_ n2_ n3_ n4_ n5_ n6_ n7_ n8_ n9_ n10_ n11_ n12_
         clear hb hbox hg
         refine hK.out _ _ ⟨(blk_cell BK195.out 0).trans rfl, (blk_cell BK195.out 1).trans rfl, (blk_cell BK195.out 2).trans rfl, (blk_cell BK195.out 3).trans rfl, (blk_cell BK195.out 4).trans rfl⟩ (fun hHeld => ?_)
         clear hK K
         refine norm_ (a' := ?_) ?_ ?_
         rotate_left
         ·show Act.put _ (some 16) _ = _
          simp only [Act.put, List.setIfInBounds_toArray, List.set_cons_zero, List.set_cons_succ, i64_w, i32_w]
          rfl
         exact norm_ (by first | (simp only [putAll, Act.put, List.setIfInBounds_toArray, List.set_cons_zero, List.set_cons_succ]; done) | (simp only [putAll, Act.put, List.setIfInBounds_toArray, List.set_cons_zero, List.set_cons_succ]; rfl)) (hJ4_6_7 (gb199, gb201, gb202) _ ⟨hHeld, BK195.out, BK199.out, BK201.out, BK202.out, GW199.out, GE199.out, NB195_199.out, NB199_195.out, NB201_199.out, NB199_201.out, NB202_199.out, NB199_202.out, GW201.out, GE201.out, NB195_201.out, NB201_195.out, NB202_201.out, NB201_202.out, GW202.out, GE202.out, NB195_202.out, NB202_195.out, (by repeat (first | (with_reducible first | exact HB.out | apply below_alloc | apply pw_below_drewN | apply below_drew1 | refine below_set ?_ GE195.out | refine below_set ?_ GE199.out | refine below_set ?_ GE201.out | refine below_set ?_ GE202.out) | exact HB.out))⟩)
      ·skip
       rintro ⟨gb199, gb200⟩ w30 ⟨hS_, h0_, h1_, h2_, h3_, h4_, h5_, h6_, h7_, h8_, h9_, h10_, h11_, h12_, h13_⟩
       have n0_ : Aside0 (w30.heap[gb195]? = some (.cells #[.int .u8 a0_0, .int .u8 a0_1, .int .u8 a0_2, .int .u8 a0_3, .int .i32 a0_4] 23 (0, 0))) := ⟨h0_⟩
       have n1_ : Aside0 (w30.heap[gb199]? = some (.cells #[.int .u8 0, .int .u8 0, .int .u8 0, .int .u8 0, .int .i32 0] 23 (0, 0))) := ⟨h1_⟩
       have n2_ : Aside0 (w30.heap[gb200]? = some (.cells #[.int .u8 0, .int .u8 0, .int .u8 0, .int .u8 0, .int .i32 0] 23 (0, 0))) := ⟨h2_⟩
       have n3_ : Aside0 (w.heap.size ≤ gb199) := ⟨h3_⟩
       have n4_ : Aside0 (w.heap.size ≤ gb199) := ⟨h4_⟩
       have n5_ : Aside0 (gb195 ≠ gb199) := ⟨h5_⟩
       have n6_ : Aside0 (gb199 ≠ gb195) := ⟨h6_⟩
       have n7_ : Aside0 (gb200 ≠ gb199) := ⟨h7_⟩
       have n8_ : Aside0 (gb199 ≠ gb200) := ⟨h8_⟩
       have n9_ : Aside0 (w.heap.size ≤ gb200) := ⟨h9_⟩
       have n10_ : Aside0 (w.heap.size ≤ gb200) := ⟨h10_⟩
       have n11_ : Aside0 (gb195 ≠ gb200) := ⟨h11_⟩
       have n12_ : Aside0 (gb200 ≠ gb195) := ⟨h12_⟩
       have n13_ : Aside0 (Below w.heap.size w w30) := ⟨h13_⟩
       clear BK195
       clear HB
       clear h0_ h1_ h2_ h3_ h4_ h5_ h6_ h7_ h8_ h9_ h10_ h11_ h12_ h13_
       have BK195 := n0_
       have BK199 := n1_
       have BK200 := n2_
       have GW199 := n3_
       have GE199 := n4_
       have NB195_199 := n5_
       have NB199_195 := n6_
       have NB200_199 := n7_
       have NB199_200 := n8_
       have GW200 := n9_
       have GE200 := n10_
       have NB195_200 := n11_
       have NB200_195 := n12_
       have HB := n13_
       clear n0_ n1_ n2_ n3_ n4_ n5_ n6_ n7_ n8_ n9_ n10_ n11_ n12_ n13_
       have hHeld : w30.cell? ⟨gb195, 0, none⟩ = some (.int .u8 a0_0) ∧ w30.cell? ⟨gb195, 1, none⟩ = some (.int .u8 a0_1) ∧ w30.cell? ⟨gb195, 2, none⟩ = some (.int .u8 a0_2) ∧ w30.cell? ⟨gb195, 3, none⟩ = some (.int .u8 a0_3) ∧ w30.cell? ⟨gb195, 4, none⟩ = some (.int .i32 a0_4) := hS_
       refine norm_ (a' := ?_) ?_ ?_
       rotate_left
       ·simp only [putAll, Act.put, List.setIfInBounds_toArray, List.set_cons_zero, List.set_cons_succ]
        rfl
       refine two_ (i := 6) (j := 7) (Ni := some 15) (Nj := some 16) zb7_PxF zb8_PxF rfl rfl rfl rfl (two_of HT_.out (by kernel_rfl)) (by decide) (by decide) (fun K hK => ?_) (fun K hK => ?_)
       ·skip
        refine box_step ?hg (N := 15) ?hd (cs := #[.int .u8 0, .int .u8 0, .int .u8 0, .int .u8 0, .int .i32 0]) (t := 23) ?hr ?_; (case hd => rfl); (case hg => rfl); (case hr => first | (go_simp; done) | (go_simp; rfl))
        intro gb201 hg w31 hbox hb
        have n0_ := Aside0.mk (blk_below (g := gb195) (o := .cells #[.int .u8 a0_0, .int .u8 a0_1, .int .u8 a0_2, .int .u8 a0_3, .int .i32 a0_4] 23 (0, 0)) BK195.out hb)
        have n1_ := Aside0.mk (blk_below (g := gb199) (o := .cells #[.int .u8 0, .int .u8 0, .int .u8 0, .int .u8 0, .int .i32 0] 23 (0, 0)) BK199.out hb)
        have n2_ := Aside0.mk (blk_below (g := gb200) (o := .cells #[.int .u8 0, .int .u8 0, .int .u8 0, .int .u8 0, .int .i32 0] 23 (0, 0)) BK200.out hb)
        have n3_ := Aside0.mk (below_step (by repeat (first | (with_reducible first | exact HB.out | apply below_alloc | apply pw_below_drewN | apply below_drew1 | refine below_set ?_ GE195.out | refine below_set ?_ GE199.out | refine below_set ?_ GE200.out) | exact HB.out)) hb)
        have n4_ := Aside0.mk (hbox)
        have n5_ := Aside0.mk ((by rw [hg]; exact (below_size (by repeat (first | (with_reducible first | exact HB.out | apply below_alloc | apply pw_below_drewN | apply below_drew1 | refine below_set ?_ GE195.out | refine below_set ?_ GE199.out | refine below_set ?_ GE200.out) | exact HB.out))) : w.heap.size ≤ gb201))
        have n6_ := Aside0.mk ((by rw [hg]; exact (below_size (by repeat (first | (with_reducible first | exact HB.out | apply below_alloc | apply pw_below_drewN | apply below_drew1 | refine below_set ?_ GE195.out | refine below_set ?_ GE199.out | refine below_set ?_ GE200.out) | exact HB.out))) : w.heap.size ≤ gb201))
        have n7_ := Aside0.mk ((by rw [hg]; exact Nat.ne_of_lt (blk_lt (g := gb195) (o := .cells #[.int .u8 a0_0, .int .u8 a0_1, .int .u8 a0_2, .int .u8 a0_3, .int .i32 a0_4] 23 (0, 0)) BK195.out) : gb195 ≠ gb201))
        have n8_ := Aside0.mk ((by rw [hg]; exact Nat.ne_of_gt (blk_lt (g := gb195) (o := .cells #[.int .u8 a0_0, .int .u8 a0_1, .int .u8 a0_2, .int .u8 a0_3, .int .i32 a0_4] 23 (0, 0)) BK195.out) : gb201 ≠ gb195))
        have n9_ := Aside0.mk ((by rw [hg]; exact Nat.ne_of_lt (blk_lt (g := gb199) (o := .cells #[.int .u8 0, .int .u8 0, .int .u8 0, .int .u8 0, .int .i32 0] 23 (0, 0)) BK199.out) : gb199 ≠ gb201))
        have n10_ := Aside0.mk ((by rw [hg]; exact Nat.ne_of_gt (blk_lt (g := gb199) (o := .cells #[.int .u8 0, .int .u8 0, .int .u8 0, .int .u8 0, .int .i32 0] 23 (0, 0)) BK199.out) : gb201 ≠ gb199))
        have n11_ := Aside0.mk ((by rw [hg]; exact Nat.ne_of_lt (blk_lt (g := gb200) (o := .cells #[.int .u8 0, .int .u8 0, .int .u8 0, .int .u8 0, .int .i32 0] 23 (0, 0)) BK200.out) : gb200 ≠ gb201))
        have n12_ := Aside0.mk ((by rw [hg]; exact Nat.ne_of_gt (blk_lt (g := gb200) (o := .cells #[.int .u8 0, .int .u8 0, .int .u8 0, .int .u8 0, .int .i32 0] 23 (0, 0)) BK200.out) : gb201 ≠ gb200))
        clear BK195
        clear BK199
        clear BK200
        clear HB
        have BK195 := n0_
        have BK199 := n1_
        have BK200 := n2_
        have HB := n3_
        have BK201 := n4_
        have GW201 := n5_
        have GE201 := n6_
        have NB195_201 := n7_
        have NB201_195 := n8_
        have NB199_201 := n9_
        have NB201_199 := n10_
        have NB200_201 := n11_
        have NB201_200 := n12_
        clear n0_ n1_ n2_ n3_ n4_ n5_ n6_ n7_ n8_ n9_ n10_ n11_ n12_
        clear hb hbox hg
        refine hK.out _ _ ⟨(blk_cell BK195.out 0).trans rfl, (blk_cell BK195.out 1).trans rfl, (blk_cell BK195.out 2).trans rfl, (blk_cell BK195.out 3).trans rfl, (blk_cell BK195.out 4).trans rfl⟩ (fun hHeld => ?_)
        clear hK K
        refine norm_ (a' := ?_) ?_ ?_
        rotate_left
        ·show Act.put _ (some 15) _ = _
         simp only [Act.put, List.setIfInBounds_toArray, List.set_cons_zero, List.set_cons_succ, i64_w, i32_w]
         rfl
        exact norm_ (by first | (simp only [putAll, Act.put, List.setIfInBounds_toArray, List.set_cons_zero, List.set_cons_succ]; done) | (simp only [putAll, Act.put, List.setIfInBounds_toArray, List.set_cons_zero, List.set_cons_succ]; rfl)) (hJ4_5_6 (gb199, gb200, gb201) _ ⟨hHeld, BK195.out, BK199.out, BK200.out, BK201.out, GW199.out, GE199.out, NB195_199.out, NB199_195.out, NB200_199.out, NB199_200.out, NB201_199.out, NB199_201.out, GW200.out, GE200.out, NB195_200.out, NB200_195.out, NB201_200.out, NB200_201.out, GW201.out, GE201.out, NB195_201.out, NB201_195.out, (by repeat (first | (with_reducible first | exact HB.out | apply below_alloc | apply pw_below_drewN | apply below_drew1 | refine below_set ?_ GE195.out | refine below_set ?_ GE199.out | refine below_set ?_ GE200.out | refine below_set ?_ GE201.out) | exact HB.out))⟩)
       ·skip
        refine box_step ?hg (N := 16) ?hd (cs := #[.int .u8 0, .int .u8 0, .int .u8 0, .int .u8 0, .int .i32 0]) (t := 23) ?hr ?_; (case hd => rfl); (case hg => rfl); (case hr => first | (go_simp; done) | (go_simp; rfl))
        intro gb202 hg w31 hbox hb
        have n0_ := Aside0.mk (blk_below (g := gb195) (o := .cells #[.int .u8 a0_0, .int .u8 a0_1, .int .u8 a0_2, .int .u8 a0_3, .int .i32 a0_4] 23 (0, 0)) BK195.out hb)
        have n1_ := Aside0.mk (blk_below (g := gb199) (o := .cells #[.int .u8 0, .int .u8 0, .int .u8 0, .int .u8 0, .int .i32 0] 23 (0, 0)) BK199.out hb)
        have n2_ := Aside0.mk (blk_below (g := gb200) (o := .cells #[.int .u8 0, .int .u8 0, .int .u8 0, .int .u8 0, .int .i32 0] 23 (0, 0)) BK200.out hb)
        have n3_ := Aside0.mk (below_step (by repeat (first | (with_reducible first | exact HB.out | apply below_alloc | apply pw_below_drewN | apply below_drew1 | refine below_set ?_ GE195.out | refine below_set ?_ GE199.out | refine below_set ?_ GE200.out) | exact HB.out)) hb)
        have n4_ := Aside0.mk (hbox)
        have n5_ := Aside0.mk ((by rw [hg]; exact (below_size (by repeat (first | (with_reducible first | exact HB.out | apply below_alloc | apply pw_below_drewN | apply below_drew1 | refine below_set ?_ GE195.out | refine below_set ?_ GE199.out | refine below_set ?_ GE200.out) | exact HB.out))) : w.heap.size ≤ gb202))
        have n6_ := Aside0.mk ((by rw [hg]; exact (below_size (by repeat (first | (with_reducible first | exact HB.out | apply below_alloc | apply pw_below_drewN | apply below_drew1 | refine below_set ?_ GE195.out | refine below_set ?_ GE199.out | refine below_set ?_ GE200.out) | exact HB.out))) : w.heap.size ≤ gb202))
        have n7_ := Aside0.mk ((by rw [hg]; exact Nat.ne_of_lt (blk_lt (g := gb195) (o := .cells #[.int .u8 a0_0, .int .u8 a0_1, .int .u8 a0_2, .int .u8 a0_3, .int .i32 a0_4] 23 (0, 0)) BK195.out) : gb195 ≠ gb202))
        have n8_ := Aside0.mk ((by rw [hg]; exact Nat.ne_of_gt (blk_lt (g := gb195) (o := .cells #[.int .u8 a0_0, .int .u8 a0_1, .int .u8 a0_2, .int .u8 a0_3, .int .i32 a0_4] 23 (0, 0)) BK195.out) : gb202 ≠ gb195))
        have n9_ := Aside0.mk ((by rw [hg]; exact Nat.ne_of_lt (blk_lt (g := gb199) (o := .cells #[.int .u8 0, .int .u8 0, .int .u8 0, .int .u8 0, .int .i32 0] 23 (0, 0)) BK199.out) : gb199 ≠ gb202))
        have n10_ := Aside0.mk ((by rw [hg]; exact Nat.ne_of_gt (blk_lt (g := gb199) (o := .cells #[.int .u8 0, .int .u8 0, .int .u8 0, .int .u8 0, .int .i32 0] 23 (0, 0)) BK199.out) : gb202 ≠ gb199))
        have n11_ := Aside0.mk ((by rw [hg]; exact Nat.ne_of_lt (blk_lt (g := gb200) (o := .cells #[.int .u8 0, .int .u8 0, .int .u8 0, .int .u8 0, .int .i32 0] 23 (0, 0)) BK200.out) : gb200 ≠ gb202))
        have n12_ := Aside0.mk ((by rw [hg]; exact Nat.ne_of_gt (blk_lt (g := gb200) (o := .cells #[.int .u8 0, .int .u8 0, .int .u8 0, .int .u8 0, .int .i32 0] 23 (0, 0)) BK200.out) : gb202 ≠ gb200))
        clear BK195
        clear BK199
        clear BK200
        clear HB
        have BK195 := n0_
        have BK199 := n1_
        have BK200 := n2_
        have HB := n3_
        have BK202 := n4_
        have GW202 := n5_
        have GE202 := n6_
        have NB195_202 := n7_
        have NB202_195 := n8_
        have NB199_202 := n9_
        have NB202_199 := n10_
        have NB200_202 := n11_
        have NB202_200 := n12_
        clear n0_ n1_ n2_ n3_ n4_ n5_ n6_ n7_ n8_ n9_ n10_ n11_ n12_
        clear hb hbox hg
        refine hK.out _ _ ⟨(blk_cell BK195.out 0).trans rfl, (blk_cell BK195.out 1).trans rfl, (blk_cell BK195.out 2).trans rfl, (blk_cell BK195.out 3).trans rfl, (blk_cell BK195.out 4).trans rfl⟩ (fun hHeld => ?_)
        clear hK K
        refine norm_ (a' := ?_) ?_ ?_
        rotate_left
        ·show Act.put _ (some 16) _ = _
         simp only [Act.put, List.setIfInBounds_toArray, List.set_cons_zero, List.set_cons_succ, i64_w, i32_w]
         rfl
        exact norm_ (by first | (simp only [putAll, Act.put, List.setIfInBounds_toArray, List.set_cons_zero, List.set_cons_succ]; done) | (simp only [putAll, Act.put, List.setIfInBounds_toArray, List.set_cons_zero, List.set_cons_succ]; rfl)) (hJ4_5_7 (gb199, gb200, gb202) _ ⟨hHeld, BK195.out, BK199.out, BK200.out, BK202.out, GW199.out, GE199.out, NB195_199.out, NB199_195.out, NB200_199.out, NB199_200.out, NB202_199.out, NB199_202.out, GW200.out, GE200.out, NB195_200.out, NB200_195.out, NB202_200.out, NB200_202.out, GW202.out, GE202.out, NB195_202.out, NB202_195.out, (by repeat (first | (with_reducible first | exact HB.out | apply below_alloc | apply pw_below_drewN | apply below_drew1 | refine below_set ?_ GE195.out | refine below_set ?_ GE199.out | refine below_set ?_ GE200.out | refine below_set ?_ GE202.out) | exact HB.out))⟩)
     ·skip
      rintro ⟨gb200, gb201, gb202⟩ w31 ⟨hS_, h0_, h1_, h2_, h3_, h4_, h5_, h6_, h7_, h8_, h9_, h10_, h11_, h12_, h13_, h14_, h15_, h16_, h17_, h18_, h19_, h20_, h21_, h22_⟩
      have n0_ : Aside0 (w31.heap[gb195]? = some (.cells #[.int .u8 a0_0, .int .u8 a0_1, .int .u8 a0_2, .int .u8 a0_3, .int .i32 a0_4] 23 (0, 0))) := ⟨h0_⟩
      have n1_ : Aside0 (w31.heap[gb200]? = some (.cells #[.int .u8 0, .int .u8 0, .int .u8 0, .int .u8 0, .int .i32 0] 23 (0, 0))) := ⟨h1_⟩
      have n2_ : Aside0 (w31.heap[gb201]? = some (.cells #[.int .u8 0, .int .u8 0, .int .u8 0, .int .u8 0, .int .i32 0] 23 (0, 0))) := ⟨h2_⟩
      have n3_ : Aside0 (w31.heap[gb202]? = some (.cells #[.int .u8 0, .int .u8 0, .int .u8 0, .int .u8 0, .int .i32 0] 23 (0, 0))) := ⟨h3_⟩
      have n4_ : Aside0 (w.heap.size ≤ gb200) := ⟨h4_⟩
      have n5_ : Aside0 (w.heap.size ≤ gb200) := ⟨h5_⟩
      have n6_ : Aside0 (gb195 ≠ gb200) := ⟨h6_⟩
      have n7_ : Aside0 (gb200 ≠ gb195) := ⟨h7_⟩
      have n8_ : Aside0 (gb201 ≠ gb200) := ⟨h8_⟩
      have n9_ : Aside0 (gb200 ≠ gb201) := ⟨h9_⟩
      have n10_ : Aside0 (gb202 ≠ gb200) := ⟨h10_⟩
      have n11_ : Aside0 (gb200 ≠ gb202) := ⟨h11_⟩
      have n12_ : Aside0 (w.heap.size ≤ gb201) := ⟨h12_⟩
      have n13_ : Aside0 (w.heap.size ≤ gb201) := ⟨h13_⟩
      have n14_ : Aside0 (gb195 ≠ gb201) := ⟨h14_⟩
      have n15_ : Aside0 (gb201 ≠ gb195) := ⟨h15_⟩
      have n16_ : Aside0 (gb202 ≠ gb201) := ⟨h16_⟩
      have n17_ : Aside0 (gb201 ≠ gb202) := ⟨h17_⟩
      have n18_ : Aside0 (w.heap.size ≤ gb202) := ⟨h18_⟩
      have n19_ : Aside0 (w.heap.size ≤ gb202) := ⟨h19_⟩
      have n20_ : Aside0 (gb195 ≠ gb202) := ⟨h20_⟩
      have n21_ : Aside0 (gb202 ≠ gb195) := ⟨h21_⟩
      have n22_ : Aside0 (Below w.heap.size w w31) := ⟨h22_⟩
      clear BK195
      clear HB
      clear h0_ h1_ h2_ h3_ h4_ h5_ h6_ h7_ h8_ h9_ h10_ h11_ h12_ h13_ h14_ h15_ h16_ h17_ h18_ h19_ h20_ h21_ h22_
      have BK195 := n0_
      have BK200 := n1_
      have BK201 := n2_
      have BK202 := n3_
      have GW200 := n4_
      have GE200 := n5_
      have NB195_200 := n6_
      have NB200_195 := n7_
      have NB201_200 := n8_
      have NB200_201 := n9_
      have NB202_200 := n10_
      have NB200_202 := n11_
      have GW201 := n12_
      have GE201 := n13_
      have NB195_201 := n14_
      have NB201_195 := n15_
      have NB202_201 := n16_
      have NB201_202 := n17_
      have GW202 := n18_
      have GE202 := n19_
      have NB195_202 := n20_
      have NB202_195 := n21_
      have HB := n22_
      clear n0_ n1_ n2_ n3_ n4_ n5_ n6_ n7_ n8_ n9_ n10_ n11_ n12_ n13_ n14_ n15_ n16_ n17_ n18_ n19_ n20_ n21_ n22_
      have hHeld : w31.cell? ⟨gb195, 0, none⟩ = some (.int .u8 a0_0) ∧ w31.cell? ⟨gb195, 1, none⟩ = some (.int .u8 a0_1) ∧ w31.cell? ⟨gb195, 2, none⟩ = some (.int .u8 a0_2) ∧ w31.cell? ⟨gb195, 3, none⟩ = some (.int .u8 a0_3) ∧ w31.cell? ⟨gb195, 4, none⟩ = some (.int .i32 a0_4) := hS_
      refine norm_ (a' := ?_) ?_ ?_
      rotate_left
      ·simp only [putAll, Act.put, List.setIfInBounds_toArray, List.set_cons_zero, List.set_cons_succ]
       rfl
      refine one_ (i := 4) (N := some 13) zb6_PxF rfl rfl (one_of HT_.out (by kernel_rfl)) (by decide) (fun K hK => ?_)
      refine box_step ?hg (N := 13) ?hd (cs := #[.int .u8 0, .int .u8 0, .int .u8 0, .int .u8 0, .int .i32 0]) (t := 23) ?hr ?_; (case hd => rfl); (case hg => rfl); (case hr => first | (go_simp; done) | (go_simp; rfl))
      intro gb199 hg w32 hbox hb
      have n0_ := Aside0.mk (blk_below (g := gb195) (o := .cells #[.int .u8 a0_0, .int .u8 a0_1, .int .u8 a0_2, .int .u8 a0_3, .int .i32 a0_4] 23 (0, 0)) BK195.out hb)
      have n1_ := Aside0.mk (blk_below (g := gb200) (o := .cells #[.int .u8 0, .int .u8 0, .int .u8 0, .int .u8 0, .int .i32 0] 23 (0, 0)) BK200.out hb)
      have n2_ := Aside0.mk (blk_below (g := gb201) (o := .cells #[.int .u8 0, .int .u8 0, .int .u8 0, .int .u8 0, .int .i32 0] 23 (0, 0)) BK201.out hb)
      have n3_ := Aside0.mk (blk_below (g := gb202) (o := .cells #[.int .u8 0, .int .u8 0, .int .u8 0, .int .u8 0, .int .i32 0] 23 (0, 0)) BK202.out hb)
      have n4_ := Aside0.mk (below_step (by repeat (first | (with_reducible first | exact HB.out | apply below_alloc | apply pw_below_drewN | apply below_drew1 | refine below_set ?_ GE195.out | refine below_set ?_ GE200.out | refine below_set ?_ GE201.out | refine below_set ?_ GE202.out) | exact HB.out)) hb)
      have n5_ := Aside0.mk (hbox)
      have n6_ := Aside0.mk ((by rw [hg]; exact (below_size (by repeat (first | (with_reducible first | exact HB.out | apply below_alloc | apply pw_below_drewN | apply below_drew1 | refine below_set ?_ GE195.out | refine below_set ?_ GE200.out | refine below_set ?_ GE201.out | refine below_set ?_ GE202.out) | exact HB.out))) : w.heap.size ≤ gb199))
      have n7_ := Aside0.mk ((by rw [hg]; exact (below_size (by repeat (first | (with_reducible first | exact HB.out | apply below_alloc | apply pw_below_drewN | apply below_drew1 | refine below_set ?_ GE195.out | refine below_set ?_ GE200.out | refine below_set ?_ GE201.out | refine below_set ?_ GE202.out) | exact HB.out))) : w.heap.size ≤ gb199))
      have n8_ := Aside0.mk ((by rw [hg]; exact Nat.ne_of_lt (blk_lt (g := gb195) (o := .cells #[.int .u8 a0_0, .int .u8 a0_1, .int .u8 a0_2, .int .u8 a0_3, .int .i32 a0_4] 23 (0, 0)) BK195.out) : gb195 ≠ gb199))
      have n9_ := Aside0.mk ((by rw [hg]; exact Nat.ne_of_gt (blk_lt (g := gb195) (o := .cells #[.int .u8 a0_0, .int .u8 a0_1, .int .u8 a0_2, .int .u8 a0_3, .int .i32 a0_4] 23 (0, 0)) BK195.out) : gb199 ≠ gb195))
      have n10_ := Aside0.mk ((by rw [hg]; exact Nat.ne_of_lt (blk_lt (g := gb200) (o := .cells #[.int .u8 0, .int .u8 0, .int .u8 0, .int .u8 0, .int .i32 0] 23 (0, 0)) BK200.out) : gb200 ≠ gb199))
      have n11_ := Aside0.mk ((by rw [hg]; exact Nat.ne_of_gt (blk_lt (g := gb200) (o := .cells #[.int .u8 0, .int .u8 0, .int .u8 0, .int .u8 0, .int .i32 0] 23 (0, 0)) BK200.out) : gb199 ≠ gb200))
      have n12_ := Aside0.mk ((by rw [hg]; exact Nat.ne_of_lt (blk_lt (g := gb201) (o := .cells #[.int .u8 0, .int .u8 0, .int .u8 0, .int .u8 0, .int .i32 0] 23 (0, 0)) BK201.out) : gb201 ≠ gb199))
      have n13_ := Aside0.mk ((by rw [hg]; exact Nat.ne_of_gt (blk_lt (g := gb201) (o := .cells #[.int .u8 0, .int .u8 0, .int .u8 0, .int .u8 0, .int .i32 0] 23 (0, 0)) BK201.out) : gb199 ≠ gb201))
      have n14_ := Aside0.mk ((by rw [hg]; exact Nat.ne_of_lt (blk_lt (g := gb202) (o := .cells #[.int .u8 0, .int .u8 0, .int .u8 0, .int .u8 0, .int .i32 0] 23 (0, 0)) BK202.out) : gb202 ≠ gb199))
      have n15_ := Aside0.mk ((by rw [hg]; exact Nat.ne_of_gt (blk_lt (g := gb202) (o := .cells #[.int .u8 0, .int .u8 0, .int .u8 0, .int .u8 0, .int .i32 0] 23 (0, 0)) BK202.out) : gb199 ≠ gb202))
      clear BK195
      clear BK200
      clear BK201
      clear BK202
      clear HB
      have BK195 := n0_
      have BK200 := n1_
      have BK201 := n2_
      have BK202 := n3_
      have HB := n4_
      have BK199 := n5_
      have GW199 := n6_
      have GE199 := n7_
      have NB195_199 := n8_
      have NB199_195 := n9_
      have NB200_199 := n10_
      have NB199_200 := n11_
      have NB201_199 := n12_
      have NB199_201 := n13_
      have NB202_199 := n14_
      have NB199_202 := n15_
      clear n0_ n1_ n2_ n3_ n4_ n5_ n6_ n7_ n8_ n9_ n10_ n11_ n12_ n13_ n14_ n15_
      clear hb hbox hg
      refine hK.out _ _ ⟨(blk_cell BK195.out 0).trans rfl, (blk_cell BK195.out 1).trans rfl, (blk_cell BK195.out 2).trans rfl, (blk_cell BK195.out 3).trans rfl, (blk_cell BK195.out 4).trans rfl⟩ (fun hHeld => ?_)
      clear hK K
      refine norm_ (a' := ?_) ?_ ?_
      rotate_left
      ·show Act.put _ (some 13) _ = _
       simp only [Act.put, List.setIfInBounds_toArray, List.set_cons_zero, List.set_cons_succ, i64_w, i32_w]
       rfl
      exact norm_ (by first | (simp only [putAll, Act.put, List.setIfInBounds_toArray, List.set_cons_zero, List.set_cons_succ]; done) | (simp only [putAll, Act.put, List.setIfInBounds_toArray, List.set_cons_zero, List.set_cons_succ]; rfl)) (hJ4_5_6_7 (gb199, gb200, gb201, gb202) _ ⟨hHeld, BK195.out, BK199.out, BK200.out, BK201.out, BK202.out, GW199.out, GE199.out, NB195_199.out, NB199_195.out, NB200_199.out, NB199_200.out, NB201_199.out, NB199_201.out, NB202_199.out, NB199_202.out, GW200.out, GE200.out, NB195_200.out, NB200_195.out, NB201_200.out, NB200_201.out, NB202_200.out, NB200_202.out, GW201.out, GE201.out, NB195_201.out, NB201_195.out, NB202_201.out, NB201_202.out, GW202.out, GE202.out, NB195_202.out, NB202_195.out, (by repeat (first | (with_reducible first | exact HB.out | apply below_alloc | apply pw_below_drewN | apply below_drew1 | refine below_set ?_ GE195.out | refine below_set ?_ GE200.out | refine below_set ?_ GE201.out | refine below_set ?_ GE202.out | refine below_set ?_ GE199.out) | exact HB.out))⟩)
    ·skip
     rintro ⟨gb199, gb201, gb202⟩ w31 ⟨hS_, h0_, h1_, h2_, h3_, h4_, h5_, h6_, h7_, h8_, h9_, h10_, h11_, h12_, h13_, h14_, h15_, h16_, h17_, h18_, h19_, h20_, h21_, h22_⟩
     have n0_ : Aside0 (w31.heap[gb195]? = some (.cells #[.int .u8 a0_0, .int .u8 a0_1, .int .u8 a0_2, .int .u8 a0_3, .int .i32 a0_4] 23 (0, 0))) := ⟨h0_⟩
     have n1_ : Aside0 (w31.heap[gb199]? = some (.cells #[.int .u8 0, .int .u8 0, .int .u8 0, .int .u8 0, .int .i32 0] 23 (0, 0))) := ⟨h1_⟩
     have n2_ : Aside0 (w31.heap[gb201]? = some (.cells #[.int .u8 0, .int .u8 0, .int .u8 0, .int .u8 0, .int .i32 0] 23 (0, 0))) := ⟨h2_⟩
     have n3_ : Aside0 (w31.heap[gb202]? = some (.cells #[.int .u8 0, .int .u8 0, .int .u8 0, .int .u8 0, .int .i32 0] 23 (0, 0))) := ⟨h3_⟩
     have n4_ : Aside0 (w.heap.size ≤ gb199) := ⟨h4_⟩
     have n5_ : Aside0 (w.heap.size ≤ gb199) := ⟨h5_⟩
     have n6_ : Aside0 (gb195 ≠ gb199) := ⟨h6_⟩
     have n7_ : Aside0 (gb199 ≠ gb195) := ⟨h7_⟩
     have n8_ : Aside0 (gb201 ≠ gb199) := ⟨h8_⟩
     have n9_ : Aside0 (gb199 ≠ gb201) := ⟨h9_⟩
     have n10_ : Aside0 (gb202 ≠ gb199) := ⟨h10_⟩
     have n11_ : Aside0 (gb199 ≠ gb202) := ⟨h11_⟩
     have n12_ : Aside0 (w.heap.size ≤ gb201) := ⟨h12_⟩
     have n13_ : Aside0 (w.heap.size ≤ gb201) := ⟨h13_⟩
     have n14_ : Aside0 (gb195 ≠ gb201) := ⟨h14_⟩
     have n15_ : Aside0 (gb201 ≠ gb195) := ⟨h15_⟩
     have n16_ : Aside0 (gb202 ≠ gb201) := ⟨h16_⟩
     have n17_ : Aside0 (gb201 ≠ gb202) := ⟨h17_⟩
     have n18_ : Aside0 (w.heap.size ≤ gb202) := ⟨h18_⟩
     have n19_ : Aside0 (w.heap.size ≤ gb202) := ⟨h19_⟩
     have n20_ : Aside0 (gb195 ≠ gb202) := ⟨h20_⟩
     have n21_ : Aside0 (gb202 ≠ gb195) := ⟨h21_⟩
     have n22_ : Aside0 (Below w.heap.size w w31) := ⟨h22_⟩
     clear BK195
     clear HB
     clear h0_ h1_ h2_ h3_ h4_ h5_ h6_ h7_ h8_ h9_ h10_ h11_ h12_ h13_ h14_ h15_ h16_ h17_ h18_ h19_ h20_ h21_ h22_
     have BK195 := n0_
     have BK199 := n1_
     have BK201 := n2_
     have BK202 := n3_
     have GW199 := n4_
     have GE199 := n5_
     have NB195_199 := n6_
     have NB199_195 := n7_
     have NB201_199 := n8_
     have NB199_201 := n9_
     have NB202_199 := n10_
     have NB199_202 := n11_
     have GW201 := n12_
     have GE201 := n13_
     have NB195_201 := n14_
     have NB201_195 := n15_
     have NB202_201 := n16_
     have NB201_202 := n17_
     have GW202 := n18_
     have GE202 := n19_
     have NB195_202 := n20_
     have NB202_195 := n21_
     have HB := n22_
     clear n0_ n1_ n2_ n3_ n4_ n5_ n6_ n7_ n8_ n9_ n10_ n11_ n12_ n13_ n14_ n15_ n16_ n17_ n18_ n19_ n20_ n21_ n22_
     have hHeld : w31.cell? ⟨gb195, 0, none⟩ = some (.int .u8 a0_0) ∧ w31.cell? ⟨gb195, 1, none⟩ = some (.int .u8 a0_1) ∧ w31.cell? ⟨gb195, 2, none⟩ = some (.int .u8 a0_2) ∧ w31.cell? ⟨gb195, 3, none⟩ = some (.int .u8 a0_3) ∧ w31.cell? ⟨gb195, 4, none⟩ = some (.int .i32 a0_4) := hS_
     refine norm_ (a' := ?_) ?_ ?_
     rotate_left
     ·simp only [putAll, Act.put, List.setIfInBounds_toArray, List.set_cons_zero, List.set_cons_succ]
      rfl
     refine one_ (i := 5) (N := some 14) zb6_PxF rfl rfl (one_of HT_.out (by kernel_rfl)) (by decide) (fun K hK => ?_)
     refine box_step ?hg (N := 14) ?hd (cs := #[.int .u8 0, .int .u8 0, .int .u8 0, .int .u8 0, .int .i32 0]) (t := 23) ?hr ?_; (case hd => rfl); (case hg => rfl); (case hr => first | (go_simp; done) | (go_simp; rfl))
     intro gb200 hg w32 hbox hb
     have n0_ := Aside0.mk (blk_below (g := gb195) (o := .cells #[.int .u8 a0_0, .int .u8 a0_1, .int .u8 a0_2, .int .u8 a0_3, .int .i32 a0_4] 23 (0, 0)) BK195.out hb)
     have n1_ := Aside0.mk (blk_below (g := gb199) (o := .cells #[.int .u8 0, .int .u8 0, .int .u8 0, .int .u8 0, .int .i32 0] 23 (0, 0)) BK199.out hb)
     have n2_ := Aside0.mk (blk_below (g := gb201) (o := .cells #[.int .u8 0, .int .u8 0, .int .u8 0, .int .u8 0, .int .i32 0] 23 (0, 0)) BK201.out hb)
     have n3_ := Aside0.mk (blk_below (g := gb202) (o := .cells #[.int .u8 0, .int .u8 0, .int .u8 0, .int .u8 0, .int .i32 0] 23 (0, 0)) BK202.out hb)
     have n4_ := Aside0.mk (below_step (by repeat (first | (with_reducible first | exact HB.out | apply below_alloc | apply pw_below_drewN | apply below_drew1 | refine below_set ?_ GE195.out | refine below_set ?_ GE199.out | refine below_set ?_ GE201.out | refine below_set ?_ GE202.out) | exact HB.out)) hb)
     have n5_ := Aside0.mk (hbox)
     have n6_ := Aside0.mk ((by rw [hg]; exact (below_size (by repeat (first | (with_reducible first | exact HB.out | apply below_alloc | apply pw_below_drewN | apply below_drew1 | refine below_set ?_ GE195.out | refine below_set ?_ GE199.out | refine below_set ?_ GE201.out | refine below_set ?_ GE202.out) | exact HB.out))) : w.heap.size ≤ gb200))
     have n7_ := Aside0.mk ((by rw [hg]; exact (below_size (by repeat (first | (with_reducible first | exact HB.out | apply below_alloc | apply pw_below_drewN | apply below_drew1 | refine below_set ?_ GE195.out | refine below_set ?_ GE199.out | refine below_set ?_ GE201.out | refine below_set ?_ GE202.out) | exact HB.out))) : w.heap.size ≤ gb200))
     have n8_ := Aside0.mk ((by rw [hg]; exact Nat.ne_of_lt (blk_lt (g := gb195) (o := .cells #[.int .u8 a0_0, .int .u8 a0_1, .int .u8 a0_2, .int .u8 a0_3, .int .i32 a0_4] 23 (0, 0)) BK195.out) : gb195 ≠ gb200))
     have n9_ := Aside0.mk ((by rw [hg]; exact Nat.ne_of_gt (blk_lt (g := gb195) (o := .cells #[.int .u8 a0_0, .int .u8 a0_1, .int .u8 a0_2, .int .u8 a0_3, .int .i32 a0_4] 23 (0, 0)) BK195.out) : gb200 ≠ gb195))
     have n10_ := Aside0.mk ((by rw [hg]; exact Nat.ne_of_lt (blk_lt (g := gb199) (o := .cells #[.int .u8 0, .int .u8 0, .int .u8 0, .int .u8 0, .int .i32 0] 23 (0, 0)) BK199.out) : gb199 ≠ gb200))
     have n11_ := Aside0.mk ((by rw [hg]; exact Nat.ne_of_gt (blk_lt (g := gb199) (o := .cells #[.int .u8 0, .int .u8 0, .int .u8 0, .int .u8 0, .int .i32 0] 23 (0, 0)) BK199.out) : gb200 ≠ gb199))
     have n12_ := Aside0.mk ((by rw [hg]; exact Nat.ne_of_lt (blk_lt (g := gb201) (o := .cells #[.int .u8 0, .int .u8 0, .int .u8 0, .int .u8 0, .int .i32 0] 23 (0, 0)) BK201.out) : gb201 ≠ gb200))
     have n13_ := Aside0.mk ((by rw [hg]; exact Nat.ne_of_gt (blk_lt (g := gb201) (o := .cells #[.int .u8 0, .int .u8 0, .int .u8 0, .int .u8 0, .int .i32 0] 23 (0, 0)) BK201.out) : gb200 ≠ gb201))
     have n14_ := Aside0.mk ((by rw [hg]; exact Nat.ne_of_lt (blk_lt (g := gb202) (o := .cells #[.int .u8 0, .int .u8 0, .int .u8 0, .int .u8 0, .int .i32 0] 23 (0, 0)) BK202.out) : gb202 ≠ gb200))
     have n15_ := Aside0.mk ((by rw [hg]; exact Nat.ne_of_gt (blk_lt (g := gb202) (o := .cells #[.int .u8 0, .int .u8 0, .int .u8 0, .int .u8 0, .int .i32 0] 23 (0, 0)) BK202.out) : gb200 ≠ gb202))
     clear BK195
     clear BK199
     clear BK201
     clear BK202
     clear HB
     have BK195 := n0_
     have BK199 := n1_
     have BK201 := n2_
     have BK202 := n3_
     have HB := n4_
     have BK200 := n5_
     have GW200 := n6_
     have GE200 := n7_
     have NB195_200 := n8_
     have NB200_195 := n9_
     have NB199_200 := n10_
     have NB200_199 := n11_
     have NB201_200 := n12_
     have NB200_201 := n13_
     have NB202_200 := n14_
     have NB200_202 := n15_
     clear n0_ n1_ n2_ n3_ n4_ n5_ n6_ n7_ n8_ n9_ n10_ n11_ n12_ n13_ n14_ n15_
     clear hb hbox hg
     refine hK.out _ _ ⟨(blk_cell BK195.out 0).trans rfl, (blk_cell BK195.out 1).trans rfl, (blk_cell BK195.out 2).trans rfl, (blk_cell BK195.out 3).trans rfl, (blk_cell BK195.out 4).trans rfl⟩ (fun hHeld => ?_)
     clear hK K
     refine norm_ (a' := ?_) ?_ ?_
     rotate_left
     ·show Act.put _ (some 14) _ = _
      simp only [Act.put, List.setIfInBounds_toArray, List.set_cons_zero, List.set_cons_succ, i64_w, i32_w]
      rfl
     exact norm_ (by first | (simp only [putAll, Act.put, List.setIfInBounds_toArray, List.set_cons_zero, List.set_cons_succ]; done) | (simp only [putAll, Act.put, List.setIfInBounds_toArray, List.set_cons_zero, List.set_cons_succ]; rfl)) (hJ4_5_6_7 (gb199, gb200, gb201, gb202) _ ⟨hHeld, BK195.out, BK199.out, BK200.out, BK201.out, BK202.out, GW199.out, GE199.out, NB195_199.out, NB199_195.out, NB200_199.out, NB199_200.out, NB201_199.out, NB199_201.out, NB202_199.out, NB199_202.out, GW200.out, GE200.out, NB195_200.out, NB200_195.out, NB201_200.out, NB200_201.out, NB202_200.out, NB200_202.out, GW201.out, GE201.out, NB195_201.out, NB201_195.out, NB202_201.out, NB201_202.out, GW202.out, GE202.out, NB195_202.out, NB202_195.out, (by repeat (first | (with_reducible first | exact HB.out | apply below_alloc | apply pw_below_drewN | apply below_drew1 | refine below_set ?_ GE195.out | refine below_set ?_ GE199.out | refine below_set ?_ GE201.out | refine below_set ?_ GE202.out | refine below_set ?_ GE200.out) | exact HB.out))⟩)
   ·skip
    rintro ⟨gb199, gb200, gb202⟩ w31 ⟨hS_, h0_, h1_, h2_, h3_, h4_, h5_, h6_, h7_, h8_, h9_, h10_, h11_, h12_, h13_, h14_, h15_, h16_, h17_, h18_, h19_, h20_, h21_, h22_⟩
    have n0_ : Aside0 (w31.heap[gb195]? = some (.cells #[.int .u8 a0_0, .int .u8 a0_1, .int .u8 a0_2, .int .u8 a0_3, .int .i32 a0_4] 23 (0, 0))) := ⟨h0_⟩
    have n1_ : Aside0 (w31.heap[gb199]? = some (.cells #[.int .u8 0, .int .u8 0, .int .u8 0, .int .u8 0, .int .i32 0] 23 (0, 0))) := ⟨h1_⟩
    have n2_ : Aside0 (w31.heap[gb200]? = some (.cells #[.int .u8 0, .int .u8 0, .int .u8 0, .int .u8 0, .int .i32 0] 23 (0, 0))) := ⟨h2_⟩
    have n3_ : Aside0 (w31.heap[gb202]? = some (.cells #[.int .u8 0, .int .u8 0, .int .u8 0, .int .u8 0, .int .i32 0] 23 (0, 0))) := ⟨h3_⟩
    have n4_ : Aside0 (w.heap.size ≤ gb199) := ⟨h4_⟩
    have n5_ : Aside0 (w.heap.size ≤ gb199) := ⟨h5_⟩
    have n6_ : Aside0 (gb195 ≠ gb199) := ⟨h6_⟩
    have n7_ : Aside0 (gb199 ≠ gb195) := ⟨h7_⟩
    have n8_ : Aside0 (gb200 ≠ gb199) := ⟨h8_⟩
    have n9_ : Aside0 (gb199 ≠ gb200) := ⟨h9_⟩
    have n10_ : Aside0 (gb202 ≠ gb199) := ⟨h10_⟩
    have n11_ : Aside0 (gb199 ≠ gb202) := ⟨h11_⟩
    have n12_ : Aside0 (w.heap.size ≤ gb200) := ⟨h12_⟩
    have n13_ : Aside0 (w.heap.size ≤ gb200) := ⟨h13_⟩
    have n14_ : Aside0 (gb195 ≠ gb200) := ⟨h14_⟩
    have n15_ : Aside0 (gb200 ≠ gb195) := ⟨h15_⟩
    have n16_ : Aside0 (gb202 ≠ gb200) := ⟨h16_⟩
    have n17_ : Aside0 (gb200 ≠ gb202) := ⟨h17_⟩
    have n18_ : Aside0 (w.heap.size ≤ gb202) := ⟨h18_⟩
    have n19_ : Aside0 (w.heap.size ≤ gb202) := ⟨h19_⟩
    have n20_ : Aside0 (gb195 ≠ gb202) := ⟨h20_⟩
    have n21_ : Aside0 (gb202 ≠ gb195) := ⟨h21_⟩
    have n22_ : Aside0 (Below w.heap.size w w31) := ⟨h22_⟩
    clear BK195
    clear HB
    clear h0_ h1_ h2_ h3_ h4_ h5_ h6_ h7_ h8_ h9_ h10_ h11_ h12_ h13_ h14_ h15_ h16_ h17_ h18_ h19_ h20_ h21_ h22_
    have BK195 := n0_
    have BK199 := n1_
    have BK200 := n2_
    have BK202 := n3_
    have GW199 := n4_
    have GE199 := n5_
    have NB195_199 := n6_
    have NB199_195 := n7_
    have NB200_199 := n8_
    have NB199_200 := n9_
    have NB202_199 := n10_
    have NB199_202 := n11_
    have GW200 := n12_
    have GE200 := n13_
    have NB195_200 := n14_
    have NB200_195 := n15_
    have NB202_200 := n16_
    have NB200_202 := n17_
    have GW202 := n18_
    have GE202 := n19_
    have NB195_202 := n20_
    have NB202_195 := n21_
    have HB := n22_
    clear n0_ n1_ n2_ n3_ n4_ n5_ n6_ n7_ n8_ n9_ n10_ n11_ n12_ n13_ n14_ n15_ n16_ n17_ n18_ n19_ n20_ n21_ n22_
    have hHeld : w31.cell? ⟨gb195, 0, none⟩ = some (.int .u8 a0_0) ∧ w31.cell? ⟨gb195, 1, none⟩ = some (.int .u8 a0_1) ∧ w31.cell? ⟨gb195, 2, none⟩ = some (.int .u8 a0_2) ∧ w31.cell? ⟨gb195, 3, none⟩ = some (.int .u8 a0_3) ∧ w31.cell? ⟨gb195, 4, none⟩ = some (.int .i32 a0_4) := hS_
    refine norm_ (a' := ?_) ?_ ?_
    rotate_left
    ·simp only [putAll, Act.put, List.setIfInBounds_toArray, List.set_cons_zero, List.set_cons_succ]
     rfl
    refine one_ (i := 6) (N := some 15) zb6_PxF rfl rfl (one_of HT_.out (by kernel_rfl)) (by decide) (fun K hK => ?_)
    refine box_step ?hg (N := 15) ?hd (cs := #[.int .u8 0, .int .u8 0, .int .u8 0, .int .u8 0, .int .i32 0]) (t := 23) ?hr ?_; (case hd => rfl); (case hg => rfl); (case hr => first | (go_simp; done) | (go_simp; rfl))
    intro gb201 hg w32 hbox hb
    have n0_ := Aside0.mk (blk_below (g := gb195) (o := .cells #[.int .u8 a0_0, .int .u8 a0_1, .int .u8 a0_2, .int .u8 a0_3, .int .i32 a0_4] 23 (0, 0)) BK195.out hb)
    have n1_ := Aside0.mk (blk_below (g := gb199) (o := .cells #[.int .u8 0, .int .u8 0, .int .u8 0, .int .u8 0, .int .i32 0] 23 (0, 0)) BK199.out hb)
    have n2_ := Aside0.mk (blk_below (g := gb200) (o := .cells #[.int .u8 0, .int .u8 0, .int .u8 0, .int .u8 0, .int .i32 0] 23 (0, 0)) BK200.out hb)
    have n3_ := Aside0.mk (blk_below (g := gb202) (o := .cells #[.int .u8 0, .int .u8 0, .int .u8 0, .int .u8 0, .int .i32 0] 23 (0, 0)) BK202.out hb)
    have n4_ := Aside0.mk (below_step (by repeat (first | (with_reducible first | exact HB.out | apply below_alloc | apply pw_below_drewN | apply below_drew1 | refine below_set ?_ GE195.out | refine below_set ?_ GE199.out | refine below_set ?_ GE200.out | refine below_set ?_ GE202.out) | exact HB.out)) hb)
    have n5_ := Aside0.mk (hbox)
    have n6_ := Aside0.mk ((by rw [hg]; exact (below_size (by repeat (first | (with_reducible first | exact HB.out | apply below_alloc | apply pw_below_drewN | apply below_drew1 | refine below_set ?_ GE195.out | refine below_set ?_ GE199.out | refine below_set ?_ GE200.out | refine below_set ?_ GE202.out) | exact HB.out))) : w.heap.size ≤ gb201))
    have n7_ := Aside0.mk ((by rw [hg]; exact (below_size (by repeat (first | (with_reducible first | exact HB.out | apply below_alloc | apply pw_below_drewN | apply below_drew1 | refine below_set ?_ GE195.out | refine below_set ?_ GE199.out | refine below_set ?_ GE200.out | refine below_set ?_ GE202.out) | exact HB.out))) : w.heap.size ≤ gb201))
    have n8_ := Aside0.mk ((by rw [hg]; exact Nat.ne_of_lt (blk_lt (g := gb195) (o := .cells #[.int .u8 a0_0, .int .u8 a0_1, .int .u8 a0_2, .int .u8 a0_3, .int .i32 a0_4] 23 (0, 0)) BK195.out) : gb195 ≠ gb201))
    have n9_ := Aside0.mk ((by rw [hg]; exact Nat.ne_of_gt (blk_lt (g := gb195) (o := .cells #[.int .u8 a0_0, .int .u8 a0_1, .int .u8 a0_2, .int .u8 a0_3, .int .i32 a0_4] 23 (0, 0)) BK195.out) : gb201 ≠ gb195))
    have n10_ := Aside0.mk ((by rw [hg]; exact Nat.ne_of_lt (blk_lt (g := gb199) (o := .cells #[.int .u8 0, .int .u8 0, .int .u8 0, .int .u8 0, .int .i32 0] 23 (0, 0)) BK199.out) : gb199 ≠ gb201))
    have n11_ := Aside0.mk ((by rw [hg]; exact Nat.ne_of_gt (blk_lt (g := gb199) (o := .cells #[.int .u8 0, .int .u8 0, .int .u8 0, .int .u8 0, .int .i32 0] 23 (0, 0)) BK199.out) : gb201 ≠ gb199))
    have n12_ := Aside0.mk ((by rw [hg]; exact Nat.ne_of_lt (blk_lt (g := gb200) (o := .cells #[.int .u8 0, .int .u8 0, .int .u8 0, .int .u8 0, .int .i32 0] 23 (0, 0)) BK200.out) : gb200 ≠ gb201))
    have n13_ := Aside0.mk ((by rw [hg]; exact Nat.ne_of_gt (blk_lt (g := gb200) (o := .cells #[.int .u8 0, .int .u8 0, .int .u8 0, .int .u8 0, .int .i32 0] 23 (0, 0)) BK200.out) : gb201 ≠ gb200))
    have n14_ := Aside0.mk ((by rw [hg]; exact Nat.ne_of_lt (blk_lt (g := gb202) (o := .cells #[.int .u8 0, .int .u8 0, .int .u8 0, .int .u8 0, .int .i32 0] 23 (0, 0)) BK202.out) : gb202 ≠ gb201))
    have n15_ := Aside0.mk ((by rw [hg]; exact Nat.ne_of_gt (blk_lt (g := gb202) (o := .cells #[.int .u8 0, .int .u8 0, .int .u8 0, .int .u8 0, .int .i32 0] 23 (0, 0)) BK202.out) : gb201 ≠ gb202))
    clear BK195
    clear BK199
    clear BK200
    clear BK202
    clear HB
    have BK195 := n0_
    have BK199 := n1_
    have BK200 := n2_
    have BK202 := n3_
    have HB := n4_
    have BK201 := n5_
    have GW201 := n6_
    have GE201 := n7_
    have NB195_201 := n8_
    have NB201_195 := n9_
    have NB199_201 := n10_
    have NB201_199 := n11_
    have NB200_201 := n12_
    have NB201_200 := n13_
    have NB202_201 := n14_
    have NB201_202 := n15_
    clear n0_ n1_ n2_ n3_ n4_ n5_ n6_ n7_ n8_ n9_ n10_ n11_ n12_ n13_ n14_ n15_
    clear hb hbox hg
    refine hK.out _ _ ⟨(blk_cell BK195.out 0).trans rfl, (blk_cell BK195.out 1).trans rfl, (blk_cell BK195.out 2).trans rfl, (blk_cell BK195.out 3).trans rfl, (blk_cell BK195.out 4).trans rfl⟩ (fun hHeld => ?_)
    clear hK K
    refine norm_ (a' := ?_) ?_ ?_
    rotate_left
    ·show Act.put _ (some 15) _ = _
     simp only [Act.put, List.setIfInBounds_toArray, List.set_cons_zero, List.set_cons_succ, i64_w, i32_w]
     rfl
    exact norm_ (by first | (simp only [putAll, Act.put, List.setIfInBounds_toArray, List.set_cons_zero, List.set_cons_succ]; done) | (simp only [putAll, Act.put, List.setIfInBounds_toArray, List.set_cons_zero, List.set_cons_succ]; rfl)) (hJ4_5_6_7 (gb199, gb200, gb201, gb202) _ ⟨hHeld, BK195.out, BK199.out, BK200.out, BK201.out, BK202.out, GW199.out, GE199.out, NB195_199.out, NB199_195.out, NB200_199.out, NB199_200.out, NB201_199.out, NB199_201.out, NB202_199.out, NB199_202.out, GW200.out, GE200.out, NB195_200.out, NB200_195.out, NB201_200.out, NB200_201.out, NB202_200.out, NB200_202.out, GW201.out, GE201.out, NB195_201.out, NB201_195.out, NB202_201.out, NB201_202.out, GW202.out, GE202.out, NB195_202.out, NB202_195.out, (by repeat (first | (with_reducible first | exact HB.out | apply below_alloc | apply pw_below_drewN | apply below_drew1 | refine below_set ?_ GE195.out | refine below_set ?_ GE199.out | refine below_set ?_ GE200.out | refine below_set ?_ GE202.out | refine below_set ?_ GE201.out) | exact HB.out))⟩)
  ·skip
   rintro ⟨gb199, gb200, gb201⟩ w31 ⟨hS_, h0_, h1_, h2_, h3_, h4_, h5_, h6_, h7_, h8_, h9_, h10_, h11_, h12_, h13_, h14_, h15_, h16_, h17_, h18_, h19_, h20_, h21_, h22_⟩
   have n0_ : Aside0 (w31.heap[gb195]? = some (.cells #[.int .u8 a0_0, .int .u8 a0_1, .int .u8 a0_2, .int .u8 a0_3, .int .i32 a0_4] 23 (0, 0))) := ⟨h0_⟩
   have n1_ : Aside0 (w31.heap[gb199]? = some (.cells #[.int .u8 0, .int .u8 0, .int .u8 0, .int .u8 0, .int .i32 0] 23 (0, 0))) := ⟨h1_⟩
   have n2_ : Aside0 (w31.heap[gb200]? = some (.cells #[.int .u8 0, .int .u8 0, .int .u8 0, .int .u8 0, .int .i32 0] 23 (0, 0))) := ⟨h2_⟩
   have n3_ : Aside0 (w31.heap[gb201]? = some (.cells #[.int .u8 0, .int .u8 0, .int .u8 0, .int .u8 0, .int .i32 0] 23 (0, 0))) := ⟨h3_⟩
   have n4_ : Aside0 (w.heap.size ≤ gb199) := ⟨h4_⟩
   have n5_ : Aside0 (w.heap.size ≤ gb199) := ⟨h5_⟩
   have n6_ : Aside0 (gb195 ≠ gb199) := ⟨h6_⟩
   have n7_ : Aside0 (gb199 ≠ gb195) := ⟨h7_⟩
   have n8_ : Aside0 (gb200 ≠ gb199) := ⟨h8_⟩
   have n9_ : Aside0 (gb199 ≠ gb200) := ⟨h9_⟩
   have n10_ : Aside0 (gb201 ≠ gb199) := ⟨h10_⟩
   have n11_ : Aside0 (gb199 ≠ gb201) := ⟨h11_⟩
   have n12_ : Aside0 (w.heap.size ≤ gb200) := ⟨h12_⟩
   have n13_ : Aside0 (w.heap.size ≤ gb200) := ⟨h13_⟩
   have n14_ : Aside0 (gb195 ≠ gb200) := ⟨h14_⟩
   have n15_ : Aside0 (gb200 ≠ gb195) := ⟨h15_⟩
   have n16_ : Aside0 (gb201 ≠ gb200) := ⟨h16_⟩
   have n17_ : Aside0 (gb200 ≠ gb201) := ⟨h17_⟩
   have n18_ : Aside0 (w.heap.size ≤ gb201) := ⟨h18_⟩
   have n19_ : Aside0 (w.heap.size ≤ gb201) := ⟨h19_⟩
   have n20_ : Aside0 (gb195 ≠ gb201) := ⟨h20_⟩
   have n21_ : Aside0 (gb201 ≠ gb195) := ⟨h21_⟩
   have n22_ : Aside0 (Below w.heap.size w w31) := ⟨h22_⟩
   clear BK195
   clear HB
   clear h0_ h1_ h2_ h3_ h4_ h5_ h6_ h7_ h8_ h9_ h10_ h11_ h12_ h13_ h14_ h15_ h16_ h17_ h18_ h19_ h20_ h21_ h22_
   have BK195 := n0_
   have BK199 := n1_
   have BK200 := n2_
   have BK201 := n3_
   have GW199 := n4_
   have GE199 := n5_
   have NB195_199 := n6_
   have NB199_195 := n7_
   have NB200_199 := n8_
   have NB199_200 := n9_
   have NB201_199 := n10_
   have NB199_201 := n11_
   have GW200 := n12_
   have GE200 := n13_
   have NB195_200 := n14_
   have NB200_195 := n15_
   have NB201_200 := n16_
   have NB200_201 := n17_
   have GW201 := n18_
   have GE201 := n19_
   have NB195_201 := n20_
   have NB201_195 := n21_
   have HB := n22_
   clear n0_ n1_ n2_ n3_ n4_ n5_ n6_ n7_ n8_ n9_ n10_ n11_ n12_ n13_ n14_ n15_ n16_ n17_ n18_ n19_ n20_ n21_ n22_
   have hHeld : w31.cell? ⟨gb195, 0, none⟩ = some (.int .u8 a0_0) ∧ w31.cell? ⟨gb195, 1, none⟩ = some (.int .u8 a0_1) ∧ w31.cell? ⟨gb195, 2, none⟩ = some (.int .u8 a0_2) ∧ w31.cell? ⟨gb195, 3, none⟩ = some (.int .u8 a0_3) ∧ w31.cell? ⟨gb195, 4, none⟩ = some (.int .i32 a0_4) := hS_
   refine norm_ (a' := ?_) ?_ ?_
   rotate_left
   ·simp only [putAll, Act.put, List.setIfInBounds_toArray, List.set_cons_zero, List.set_cons_succ]
    rfl
   refine one_ (i := 7) (N := some 16) zb6_PxF rfl rfl (one_of HT_.out (by kernel_rfl)) (by decide) (fun K hK => ?_)
   refine box_step ?hg (N := 16) ?hd (cs := #[.int .u8 0, .int .u8 0, .int .u8 0, .int .u8 0, .int .i32 0]) (t := 23) ?hr ?_; (case hd => rfl); (case hg => rfl); (case hr => first | (go_simp; done) | (go_simp; rfl))
   intro gb202 hg w32 hbox hb
   have n0_ := Aside0.mk (blk_below (g := gb195) (o := .cells #[.int .u8 a0_0, .int .u8 a0_1, .int .u8 a0_2, .int .u8 a0_3, .int .i32 a0_4] 23 (0, 0)) BK195.out hb)
   have n1_ := Aside0.mk (blk_below (g := gb199) (o := .cells #[.int .u8 0, .int .u8 0, .int .u8 0, .int .u8 0, .int .i32 0] 23 (0, 0)) BK199.out hb)
   have n2_ := Aside0.mk (blk_below (g := gb200) (o := .cells #[.int .u8 0, .int .u8 0, .int .u8 0, .int .u8 0, .int .i32 0] 23 (0, 0)) BK200.out hb)
   have n3_ := Aside0.mk (blk_below (g := gb201) (o := .cells #[.int .u8 0, .int .u8 0, .int .u8 0, .int .u8 0, .int .i32 0] 23 (0, 0)) BK201.out hb)
   have n4_ := Aside0.mk (below_step (by repeat (first | (with_reducible first | exact HB.out | apply below_alloc | apply pw_below_drewN | apply below_drew1 | refine below_set ?_ GE195.out | refine below_set ?_ GE199.out | refine below_set ?_ GE200.out | refine below_set ?_ GE201.out) | exact HB.out)) hb)
   have n5_ := Aside0.mk (hbox)
   have n6_ := Aside0.mk ((by rw [hg]; exact (below_size (by repeat (first | (with_reducible first | exact HB.out | apply below_alloc | apply pw_below_drewN | apply below_drew1 | refine below_set ?_ GE195.out | refine below_set ?_ GE199.out | refine below_set ?_ GE200.out | refine below_set ?_ GE201.out) | exact HB.out))) : w.heap.size ≤ gb202))
   have n7_ := Aside0.mk ((by rw [hg]; exact (below_size (by repeat (first | (with_reducible first | exact HB.out | apply below_alloc | apply pw_below_drewN | apply below_drew1 | refine below_set ?_ GE195.out | refine below_set ?_ GE199.out | refine below_set ?_ GE200.out | refine below_set ?_ GE201.out) | exact HB.out))) : w.heap.size ≤ gb202))
   have n8_ := Aside0.mk ((by rw [hg]; exact Nat.ne_of_lt (blk_lt (g := gb195) (o := .cells #[.int .u8 a0_0, .int .u8 a0_1, .int .u8 a0_2, .int .u8 a0_3, .int .i32 a0_4] 23 (0, 0)) BK195.out) : gb195 ≠ gb202))
   have n9_ := Aside0.mk ((by rw [hg]; exact Nat.ne_of_gt (blk_lt (g := gb195) (o := .cells #[.int .u8 a0_0, .int .u8 a0_1, .int .u8 a0_2, .int .u8 a0_3, .int .i32 a0_4] 23 (0, 0)) BK195.out) : gb202 ≠ gb195))
   have n10_ := Aside0.mk ((by rw [hg]; exact Nat.ne_of_lt (blk_lt (g := gb199) (o := .cells #[.int .u8 0, .int .u8 0, .int .u8 0, .int .u8 0, .int .i32 0] 23 (0, 0)) BK199.out) : gb199 ≠ gb202))
   have n11_ := Aside0.mk ((by rw [hg]; exact Nat.ne_of_gt (blk_lt (g := gb199) (o := .cells #[.int .u8 0, .int .u8 0, .int .u8 0, .int .u8 0, .int .i32 0] 23 (0, 0)) BK199.out) : gb202 ≠ gb199))
   have n12_ := Aside0.mk ((by rw [hg]; exact Nat.ne_of_lt (blk_lt (g := gb200) (o := .cells #[.int .u8 0, .int .u8 0, .int .u8 0, .int .u8 0, .int .i32 0] 23 (0, 0)) BK200.out) : gb200 ≠ gb202))
   have n13_ := Aside0.mk ((by rw [hg]; exact Nat.ne_of_gt (blk_lt (g := gb200) (o := .cells #[.int .u8 0, .int .u8 0, .int .u8 0, .int .u8 0, .int .i32 0] 23 (0, 0)) BK200.out) : gb202 ≠ gb200))
   have n14_ := Aside0.mk ((by rw [hg]; exact Nat.ne_of_lt (blk_lt (g := gb201) (o := .cells #[.int .u8 0, .int .u8 0, .int .u8 0, .int .u8 0, .int .i32 0] 23 (0, 0)) BK201.out) : gb201 ≠ gb202))
   have n15_ := Aside0.mk ((by rw [hg]; exact Nat.ne_of_gt (blk_lt (g := gb201) (o := .cells #[.int .u8 0, .int .u8 0, .int .u8 0, .int .u8 0, .int .i32 0] 23 (0, 0)) BK201.out) : gb202 ≠ gb201))
   clear BK195
   clear BK199
   clear BK200
   clear BK201
   clear HB
   have BK195 := n0_
   have BK199 := n1_
   have BK200 := n2_
   have BK201 := n3_
   have HB := n4_
   have BK202 := n5_
   have GW202 := n6_
   have GE202 := n7_
   have NB195_202 := n8_
   have NB202_195 := n9_
   have NB199_202 := n10_
   have NB202_199 := n11_
   have NB200_202 := n12_
   have NB202_200 := n13_
   have NB201_202 := n14_
   have NB202_201 := n15_
   clear n0_ n1_ n2_ n3_ n4_ n5_ n6_ n7_ n8_ n9_ n10_ n11_ n12_ n13_ n14_ n15_
   clear hb hbox hg
   refine hK.out _ _ ⟨(blk_cell BK195.out 0).trans rfl, (blk_cell BK195.out 1).trans rfl, (blk_cell BK195.out 2).trans rfl, (blk_cell BK195.out 3).trans rfl, (blk_cell BK195.out 4).trans rfl⟩ (fun hHeld => ?_)
   clear hK K
   refine norm_ (a' := ?_) ?_ ?_
   rotate_left
   ·show Act.put _ (some 16) _ = _
    simp only [Act.put, List.setIfInBounds_toArray, List.set_cons_zero, List.set_cons_succ, i64_w, i32_w]
    rfl
   exact norm_ (by first | (simp only [putAll, Act.put, List.setIfInBounds_toArray, List.set_cons_zero, List.set_cons_succ]; done) | (simp only [putAll, Act.put, List.setIfInBounds_toArray, List.set_cons_zero, List.set_cons_succ]; rfl)) (hJ4_5_6_7 (gb199, gb200, gb201, gb202) _ ⟨hHeld, BK195.out, BK199.out, BK200.out, BK201.out, BK202.out, GW199.out, GE199.out, NB195_199.out, NB199_195.out, NB200_199.out, NB199_200.out, NB201_199.out, NB199_201.out, NB202_199.out, NB199_202.out, GW200.out, GE200.out, NB195_200.out, NB200_195.out, NB201_200.out, NB200_201.out, NB202_200.out, NB200_202.out, GW201.out, GE201.out, NB195_201.out, NB201_195.out, NB202_201.out, NB201_202.out, GW202.out, GE202.out, NB195_202.out, NB202_195.out, (by repeat (first | (with_reducible first | exact HB.out | apply below_alloc | apply pw_below_drewN | apply below_drew1 | refine below_set ?_ GE195.out | refine below_set ?_ GE199.out | refine below_set ?_ GE200.out | refine below_set ?_ GE201.out | refine below_set ?_ GE202.out) | exact HB.out))⟩)
 rintro ⟨gb199, gb200, gb201, gb202⟩ w32 ⟨hS_, h0_, h1_, h2_, h3_, h4_, h5_, h6_, h7_, h8_, h9_, h10_, h11_, h12_, h13_, h14_, h15_, h16_, h17_, h18_, h19_, h20_, h21_, h22_, h23_, h24_, h25_, h26_, h27_, h28_, h29_, h30_, h31_, h32_, h33_⟩
 have n0_ : Aside0 (w32.heap[gb195]? = some (.cells #[.int .u8 a0_0, .int .u8 a0_1, .int .u8 a0_2, .int .u8 a0_3, .int .i32 a0_4] 23 (0, 0))) := ⟨h0_⟩
 have n1_ : Aside0 (w32.heap[gb199]? = some (.cells #[.int .u8 0, .int .u8 0, .int .u8 0, .int .u8 0, .int .i32 0] 23 (0, 0))) := ⟨h1_⟩
 have n2_ : Aside0 (w32.heap[gb200]? = some (.cells #[.int .u8 0, .int .u8 0, .int .u8 0, .int .u8 0, .int .i32 0] 23 (0, 0))) := ⟨h2_⟩
 have n3_ : Aside0 (w32.heap[gb201]? = some (.cells #[.int .u8 0, .int .u8 0, .int .u8 0, .int .u8 0, .int .i32 0] 23 (0, 0))) := ⟨h3_⟩
 have n4_ : Aside0 (w32.heap[gb202]? = some (.cells #[.int .u8 0, .int .u8 0, .int .u8 0, .int .u8 0, .int .i32 0] 23 (0, 0))) := ⟨h4_⟩
 have n5_ : Aside0 (w.heap.size ≤ gb199) := ⟨h5_⟩
 have n6_ : Aside0 (w.heap.size ≤ gb199) := ⟨h6_⟩
 have n7_ : Aside0 (gb195 ≠ gb199) := ⟨h7_⟩
 have n8_ : Aside0 (gb199 ≠ gb195) := ⟨h8_⟩
 have n9_ : Aside0 (gb200 ≠ gb199) := ⟨h9_⟩
 have n10_ : Aside0 (gb199 ≠ gb200) := ⟨h10_⟩
 have n11_ : Aside0 (gb201 ≠ gb199) := ⟨h11_⟩
 have n12_ : Aside0 (gb199 ≠ gb201) := ⟨h12_⟩
 have n13_ : Aside0 (gb202 ≠ gb199) := ⟨h13_⟩
 have n14_ : Aside0 (gb199 ≠ gb202) := ⟨h14_⟩
 have n15_ : Aside0 (w.heap.size ≤ gb200) := ⟨h15_⟩
 have n16_ : Aside0 (w.heap.size ≤ gb200) := ⟨h16_⟩
 have n17_ : Aside0 (gb195 ≠ gb200) := ⟨h17_⟩
 have n18_ : Aside0 (gb200 ≠ gb195) := ⟨h18_⟩
 have n19_ : Aside0 (gb201 ≠ gb200) := ⟨h19_⟩
 have n20_ : Aside0 (gb200 ≠ gb201) := ⟨h20_⟩
 have n21_ : Aside0 (gb202 ≠ gb200) := ⟨h21_⟩
 have n22_ : Aside0 (gb200 ≠ gb202) := ⟨h22_⟩
 have n23_ : Aside0 (w.heap.size ≤ gb201) := ⟨h23_⟩
 have n24_ : Aside0 (w.heap.size ≤ gb201) := ⟨h24_⟩
 have n25_ : Aside0 (gb195 ≠ gb201) := ⟨h25_⟩
 have n26_ : Aside0 (gb201 ≠ gb195) := ⟨h26_⟩
 have n27_ : Aside0 (gb202 ≠ gb201) := ⟨h27_⟩
 have n28_ : Aside0 (gb201 ≠ gb202) := ⟨h28_⟩
 have n29_ : Aside0 (w.heap.size ≤ gb202) := ⟨h29_⟩
 have n30_ : Aside0 (w.heap.size ≤ gb202) := ⟨h30_⟩
 have n31_ : Aside0 (gb195 ≠ gb202) := ⟨h31_⟩
 have n32_ : Aside0 (gb202 ≠ gb195) := ⟨h32_⟩
 have n33_ : Aside0 (Below w.heap.size w w32) := ⟨h33_⟩
 clear BK195
 clear HB
 clear h0_ h1_ h2_ h3_ h4_ h5_ h6_ h7_ h8_ h9_ h10_ h11_ h12_ h13_ h14_ h15_ h16_ h17_ h18_ h19_ h20_ h21_ h22_ h23_ h24_ h25_ h26_ h27_ h28_ h29_ h30_ h31_ h32_ h33_
 have BK195 := n0_
 have BK199 := n1_
 have BK200 := n2_
 have BK201 := n3_
 have BK202 := n4_
 have GW199 := n5_
 have GE199 := n6_
 have NB195_199 := n7_
 have NB199_195 := n8_
 have NB200_199 := n9_
 have NB199_200 := n10_
 have NB201_199 := n11_
 have NB199_201 := n12_
 have NB202_199 := n13_
 have NB199_202 := n14_
 have GW200 := n15_
 have GE200 := n16_
 have NB195_200 := n17_
 have NB200_195 := n18_
 have NB201_200 := n19_
 have NB200_201 := n20_
 have NB202_200 := n21_
 have NB200_202 := n22_
 have GW201 := n23_
 have GE201 := n24_
 have NB195_201 := n25_
 have NB201_195 := n26_
 have NB202_201 := n27_
 have NB201_202 := n28_
 have GW202 := n29_
 have GE202 := n30_
 have NB195_202 := n31_
 have NB202_195 := n32_
 have HB := n33_
 clear n0_ n1_ n2_ n3_ n4_ n5_ n6_ n7_ n8_ n9_ n10_ n11_ n12_ n13_ n14_ n15_ n16_ n17_ n18_ n19_ n20_ n21_ n22_ n23_ n24_ n25_ n26_ n27_ n28_ n29_ n30_ n31_ n32_ n33_
 have hHeld : w32.cell? ⟨gb195, 0, none⟩ = some (.int .u8 a0_0) ∧ w32.cell? ⟨gb195, 1, none⟩ = some (.int .u8 a0_1) ∧ w32.cell? ⟨gb195, 2, none⟩ = some (.int .u8 a0_2) ∧ w32.cell? ⟨gb195, 3, none⟩ = some (.int .u8 a0_3) ∧ w32.cell? ⟨gb195, 4, none⟩ = some (.int .i32 a0_4) := hS_
 refine norm_ (a' := ?_) ?_ ?_
 rotate_left
 ·simp only [putAll, Act.put, List.setIfInBounds_toArray, List.set_cons_zero, List.set_cons_succ]
  rfl
 refine one_ (i := 8) (N := none) zb21_PxF rfl rfl (one_of HT_.out (by kernel_rfl)) (by decide) (fun K hK => ?_)
 have hs33 : w32.cell? ⟨gb199, 0, none⟩ = some (.int .u8 0) := (blk_cell BK199.out 0).trans rfl
 have hfs33 := blk_frozen BK199.out 0
 have hns33_0 := NB195_199.out
 have hns33_2 := NB200_199.out
 have hns33_3 := NB201_199.out
 have hns33_4 := NB202_199.out
 have hms33_0 := NB199_195.out
 have hms33_2 := NB199_200.out
 have hms33_3 := NB199_201.out
 have hms33_4 := NB199_202.out
 have hs34 : w32.cell? ⟨gb199, 1, none⟩ = some (.int .u8 0) := (blk_cell BK199.out 1).trans rfl
 have hfs34 := blk_frozen BK199.out 1
 have hns34_0 := NB195_199.out
 have hns34_2 := NB200_199.out
 have hns34_3 := NB201_199.out
 have hns34_4 := NB202_199.out
 have hms34_0 := NB199_195.out
 have hms34_2 := NB199_200.out
 have hms34_3 := NB199_201.out
 have hms34_4 := NB199_202.out
 have hs35 : w32.cell? ⟨gb199, 2, none⟩ = some (.int .u8 0) := (blk_cell BK199.out 2).trans rfl
 have hfs35 := blk_frozen BK199.out 2
 have hns35_0 := NB195_199.out
 have hns35_2 := NB200_199.out
 have hns35_3 := NB201_199.out
 have hns35_4 := NB202_199.out
 have hms35_0 := NB199_195.out
 have hms35_2 := NB199_200.out
 have hms35_3 := NB199_201.out
 have hms35_4 := NB199_202.out
 have hs36 : w32.cell? ⟨gb199, 3, none⟩ = some (.int .u8 0) := (blk_cell BK199.out 3).trans rfl
 have hfs36 := blk_frozen BK199.out 3
 have hns36_0 := NB195_199.out
 have hns36_2 := NB200_199.out
 have hns36_3 := NB201_199.out
 have hns36_4 := NB202_199.out
 have hms36_0 := NB199_195.out
 have hms36_2 := NB199_200.out
 have hms36_3 := NB199_201.out
 have hms36_4 := NB199_202.out
 have hs37 : w32.cell? ⟨gb199, 4, none⟩ = some (.int .i32 0) := (blk_cell BK199.out 4).trans rfl
 have hfs37 := blk_frozen BK199.out 4
 have hns37_0 := NB195_199.out
 have hns37_2 := NB200_199.out
 have hns37_3 := NB201_199.out
 have hns37_4 := NB202_199.out
 have hms37_0 := NB199_195.out
 have hms37_2 := NB199_200.out
 have hms37_3 := NB199_201.out
 have hms37_4 := NB199_202.out
 refine skip_ (w1 := ?_) (by rfl) rfl ?_ ?_
 rotate_left
 ·go_simp
  rfl
 refine hK.out _ _ ⟨((cell_far (p := ⟨gb199, _, none⟩) NB195_199.out _).trans (((cell_far (p := ⟨gb199, _, none⟩) NB195_199.out _).trans (((cell_far (p := ⟨gb199, _, none⟩) NB195_199.out _).trans (((cell_far (p := ⟨gb199, _, none⟩) NB195_199.out _).trans (((cell_far (p := ⟨gb199, _, none⟩) NB195_199.out _).trans (hHeld.1)))))))))), ((cell_far (p := ⟨gb199, _, none⟩) NB195_199.out _).trans (((cell_far (p := ⟨gb199, _, none⟩) NB195_199.out _).trans (((cell_far (p := ⟨gb199, _, none⟩) NB195_199.out _).trans (((cell_far (p := ⟨gb199, _, none⟩) NB195_199.out _).trans (((cell_far (p := ⟨gb199, _, none⟩) NB195_199.out _).trans (hHeld.2.1)))))))))), ((cell_far (p := ⟨gb199, _, none⟩) NB195_199.out _).trans (((cell_far (p := ⟨gb199, _, none⟩) NB195_199.out _).trans (((cell_far (p := ⟨gb199, _, none⟩) NB195_199.out _).trans (((cell_far (p := ⟨gb199, _, none⟩) NB195_199.out _).trans (((cell_far (p := ⟨gb199, _, none⟩) NB195_199.out _).trans (hHeld.2.2.1)))))))))), ((cell_far (p := ⟨gb199, _, none⟩) NB195_199.out _).trans (((cell_far (p := ⟨gb199, _, none⟩) NB195_199.out _).trans (((cell_far (p := ⟨gb199, _, none⟩) NB195_199.out _).trans (((cell_far (p := ⟨gb199, _, none⟩) NB195_199.out _).trans (((cell_far (p := ⟨gb199, _, none⟩) NB195_199.out _).trans (hHeld.2.2.2.1)))))))))), ((cell_far (p := ⟨gb199, _, none⟩) NB195_199.out _).trans (((cell_far (p := ⟨gb199, _, none⟩) NB195_199.out _).trans (((cell_far (p := ⟨gb199, _, none⟩) NB195_199.out _).trans (((cell_far (p := ⟨gb199, _, none⟩) NB195_199.out _).trans (((cell_far (p := ⟨gb199, _, none⟩) NB195_199.out _).trans (hHeld.2.2.2.2))))))))))⟩ (fun hHeld => ?_)
 clear hK K
 refine gen_w (fun w' => (w'.cell? ⟨gb195, 0, none⟩ = some (.int .u8 a0_0) ∧ w'.cell? ⟨gb195, 1, none⟩ = some (.int .u8 a0_1) ∧ w'.cell? ⟨gb195, 2, none⟩ = some (.int .u8 a0_2) ∧ w'.cell? ⟨gb195, 3, none⟩ = some (.int .u8 a0_3) ∧ w'.cell? ⟨gb195, 4, none⟩ = some (.int .i32 a0_4)) ∧ w'.heap[gb195]? = some (.cells #[.int .u8 a0_0, .int .u8 a0_1, .int .u8 a0_2, .int .u8 a0_3, .int .i32 a0_4] 23 (0, 0)) ∧ w'.heap[gb199]? = some (.cells #[.int .u8 a0_0, .int .u8 a0_1, .int .u8 a0_2, .int .u8 a0_3, .int .i32 a0_4] 23 (0, 0)) ∧ w'.heap[gb200]? = some (.cells #[.int .u8 0, .int .u8 0, .int .u8 0, .int .u8 0, .int .i32 0] 23 (0, 0)) ∧ w'.heap[gb201]? = some (.cells #[.int .u8 0, .int .u8 0, .int .u8 0, .int .u8 0, .int .i32 0] 23 (0, 0)) ∧ w'.heap[gb202]? = some (.cells #[.int .u8 0, .int .u8 0, .int .u8 0, .int .u8 0, .int .i32 0] 23 (0, 0)) ∧ Below w.heap.size w w') ?_ ?_
 ·refine ⟨hHeld, ?_, ?_, ?_, ?_, ?_, ?_⟩
  ·refine blk_far ?_ NB195_199.out _
   refine blk_far ?_ NB195_199.out _
   refine blk_far ?_ NB195_199.out _
   refine blk_far ?_ NB195_199.out _
   refine blk_far ?_ NB195_199.out _
   exact BK195.out
  ·refine blk_put (cs := #[.int .u8 a0_0, .int .u8 a0_1, .int .u8 a0_2, .int .u8 a0_3, .int .i32 0]) ?_ 4 _ rfl
   refine blk_put (cs := #[.int .u8 a0_0, .int .u8 a0_1, .int .u8 a0_2, .int .u8 0, .int .i32 0]) ?_ 3 _ rfl
   refine blk_put (cs := #[.int .u8 a0_0, .int .u8 a0_1, .int .u8 0, .int .u8 0, .int .i32 0]) ?_ 2 _ rfl
   refine blk_put (cs := #[.int .u8 a0_0, .int .u8 0, .int .u8 0, .int .u8 0, .int .i32 0]) ?_ 1 _ rfl
   refine blk_put (cs := #[.int .u8 0, .int .u8 0, .int .u8 0, .int .u8 0, .int .i32 0]) ?_ 0 _ rfl
   exact BK199.out
  ·refine blk_far ?_ NB200_199.out _
   refine blk_far ?_ NB200_199.out _
   refine blk_far ?_ NB200_199.out _
   refine blk_far ?_ NB200_199.out _
   refine blk_far ?_ NB200_199.out _
   exact BK200.out
  ·refine blk_far ?_ NB201_199.out _
   refine blk_far ?_ NB201_199.out _
   refine blk_far ?_ NB201_199.out _
   refine blk_far ?_ NB201_199.out _
   refine blk_far ?_ NB201_199.out _
   exact BK201.out
  ·refine blk_far ?_ NB202_199.out _
   refine blk_far ?_ NB202_199.out _
   refine blk_far ?_ NB202_199.out _
   refine blk_far ?_ NB202_199.out _
   refine blk_far ?_ NB202_199.out _
   exact BK202.out
  ·repeat (first | (with_reducible first | exact HB.out | apply below_alloc | apply pw_below_drewN | apply below_drew1 | refine below_set ?_ GE195.out | refine below_set ?_ GE199.out | refine below_set ?_ GE200.out | refine below_set ?_ GE201.out | refine below_set ?_ GE202.out) | exact HB.out)
 clear hHeld hs33 hfs33 hns33_0 hns33_2 hns33_3 hns33_4 hms33_0 hms33_2 hms33_3 hms33_4 hs34 hfs34 hns34_0 hns34_2 hns34_3 hns34_4 hms34_0 hms34_2 hms34_3 hms34_4 hs35 hfs35 hns35_0 hns35_2 hns35_3 hns35_4 hms35_0 hms35_2 hms35_3 hms35_4 hs36 hfs36 hns36_0 hns36_2 hns36_3 hns36_4 hms36_0 hms36_2 hms36_3 hms36_4 hs37 hfs37 hns37_0 hns37_2 hns37_3 hns37_4 hms37_0 hms37_2 hms37_3 hms37_4 BK195 BK199 BK200 BK201 BK202 HB
 rintro w33_1 ⟨hHeld, hb195_, hb199_, hb200_, hb201_, hb202_, hbw_⟩
 have BK195 := Aside0.mk hb195_
 have BK199 := Aside0.mk hb199_
 have BK200 := Aside0.mk hb200_
 have BK201 := Aside0.mk hb201_
 have BK202 := Aside0.mk hb202_
 have HB := Aside0.mk hbw_
 clear hb195_ hb199_ hb200_ hb201_ hb202_ hbw_
 refine one_ (i := 9) (N := none) zb22_PxF rfl rfl (one_of HT_.out (by kernel_rfl)) (by decide) (fun K hK => ?_)
 have hs38 : w33_1.cell? ⟨gb200, 0, none⟩ = some (.int .u8 0) := (blk_cell BK200.out 0).trans rfl
 have hfs38 := blk_frozen BK200.out 0
 have hns38_0 := NB195_200.out
 have hns38_1 := NB199_200.out
 have hns38_3 := NB201_200.out
 have hns38_4 := NB202_200.out
 have hms38_0 := NB200_195.out
 have hms38_1 := NB200_199.out
 have hms38_3 := NB200_201.out
 have hms38_4 := NB200_202.out
 have hs39 : w33_1.cell? ⟨gb200, 1, none⟩ = some (.int .u8 0) := (blk_cell BK200.out 1).trans rfl
 have hfs39 := blk_frozen BK200.out 1
 have hns39_0 := NB195_200.out
 have hns39_1 := NB199_200.out
 have hns39_3 := NB201_200.out
 have hns39_4 := NB202_200.out
 have hms39_0 := NB200_195.out
 have hms39_1 := NB200_199.out
 have hms39_3 := NB200_201.out
 have hms39_4 := NB200_202.out
 have hs40 : w33_1.cell? ⟨gb200, 2, none⟩ = some (.int .u8 0) := (blk_cell BK200.out 2).trans rfl
 have hfs40 := blk_frozen BK200.out 2
 have hns40_0 := NB195_200.out
 have hns40_1 := NB199_200.out
 have hns40_3 := NB201_200.out
 have hns40_4 := NB202_200.out
 have hms40_0 := NB200_195.out
 have hms40_1 := NB200_199.out
 have hms40_3 := NB200_201.out
 have hms40_4 := NB200_202.out
 have hs41 : w33_1.cell? ⟨gb200, 3, none⟩ = some (.int .u8 0) := (blk_cell BK200.out 3).trans rfl
 have hfs41 := blk_frozen BK200.out 3
 have hns41_0 := NB195_200.out
 have hns41_1 := NB199_200.out
 have hns41_3 := NB201_200.out
 have hns41_4 := NB202_200.out
 have hms41_0 := NB200_195.out
 have hms41_1 := NB200_199.out
 have hms41_3 := NB200_201.out
 have hms41_4 := NB200_202.out
 have hs42 : w33_1.cell? ⟨gb200, 4, none⟩ = some (.int .i32 0) := (blk_cell BK200.out 4).trans rfl
 have hfs42 := blk_frozen BK200.out 4
 have hns42_0 := NB195_200.out
 have hns42_1 := NB199_200.out
 have hns42_3 := NB201_200.out
 have hns42_4 := NB202_200.out
 have hms42_0 := NB200_195.out
 have hms42_1 := NB200_199.out
 have hms42_3 := NB200_201.out
 have hms42_4 := NB200_202.out
 refine skip_ (w1 := ?_) (by rfl) rfl ?_ ?_
 rotate_left
 ·go_simp
  rfl
 refine hK.out _ _ ⟨((cell_far (p := ⟨gb200, _, none⟩) NB195_200.out _).trans (((cell_far (p := ⟨gb200, _, none⟩) NB195_200.out _).trans (((cell_far (p := ⟨gb200, _, none⟩) NB195_200.out _).trans (((cell_far (p := ⟨gb200, _, none⟩) NB195_200.out _).trans (((cell_far (p := ⟨gb200, _, none⟩) NB195_200.out _).trans (hHeld.1)))))))))), ((cell_far (p := ⟨gb200, _, none⟩) NB195_200.out _).trans (((cell_far (p := ⟨gb200, _, none⟩) NB195_200.out _).trans (((cell_far (p := ⟨gb200, _, none⟩) NB195_200.out _).trans (((cell_far (p := ⟨gb200, _, none⟩) NB195_200.out _).trans (((cell_far (p := ⟨gb200, _, none⟩) NB195_200.out _).trans (hHeld.2.1)))))))))), ((cell_far (p := ⟨gb200, _, none⟩) NB195_200.out _).trans (((cell_far (p := ⟨gb200, _, none⟩) NB195_200.out _).trans (((cell_far (p := ⟨gb200, _, none⟩) NB195_200.out _).trans (((cell_far (p := ⟨gb200, _, none⟩) NB195_200.out _).trans (((cell_far (p := ⟨gb200, _, none⟩) NB195_200.out _).trans (hHeld.2.2.1)))))))))), ((cell_far (p := ⟨gb200, _, none⟩) NB195_200.out _).trans (((cell_far (p := ⟨gb200, _, none⟩) NB195_200.out _).trans (((cell_far (p := ⟨gb200, _, none⟩) NB195_200.out _).trans (((cell_far (p := ⟨gb200, _, none⟩) NB195_200.out _).trans (((cell_far (p := ⟨gb200, _, none⟩) NB195_200.out _).trans (hHeld.2.2.2.1)))))))))), ((cell_far (p := ⟨gb200, _, none⟩) NB195_200.out _).trans (((cell_far (p := ⟨gb200, _, none⟩) NB195_200.out _).trans (((cell_far (p := ⟨gb200, _, none⟩) NB195_200.out _).trans (((cell_far (p := ⟨gb200, _, none⟩) NB195_200.out _).trans (((cell_far (p := ⟨gb200, _, none⟩) NB195_200.out _).trans (hHeld.2.2.2.2))))))))))⟩ (fun hHeld => ?_)
 clear hK K
 refine gen_w (fun w' => (w'.cell? ⟨gb195, 0, none⟩ = some (.int .u8 a0_0) ∧ w'.cell? ⟨gb195, 1, none⟩ = some (.int .u8 a0_1) ∧ w'.cell? ⟨gb195, 2, none⟩ = some (.int .u8 a0_2) ∧ w'.cell? ⟨gb195, 3, none⟩ = some (.int .u8 a0_3) ∧ w'.cell? ⟨gb195, 4, none⟩ = some (.int .i32 a0_4)) ∧ w'.heap[gb195]? = some (.cells #[.int .u8 a0_0, .int .u8 a0_1, .int .u8 a0_2, .int .u8 a0_3, .int .i32 a0_4] 23 (0, 0)) ∧ w'.heap[gb199]? = some (.cells #[.int .u8 a0_0, .int .u8 a0_1, .int .u8 a0_2, .int .u8 a0_3, .int .i32 a0_4] 23 (0, 0)) ∧ w'.heap[gb200]? = some (.cells #[.int .u8 a0_0, .int .u8 a0_1, .int .u8 a0_2, .int .u8 a0_3, .int .i32 a0_4] 23 (0, 0)) ∧ w'.heap[gb201]? = some (.cells #[.int .u8 0, .int .u8 0, .int .u8 0, .int .u8 0, .int .i32 0] 23 (0, 0)) ∧ w'.heap[gb202]? = some (.cells #[.int .u8 0, .int .u8 0, .int .u8 0, .int .u8 0, .int .i32 0] 23 (0, 0)) ∧ Below w.heap.size w w') ?_ ?_
 ·refine ⟨hHeld, ?_, ?_, ?_, ?_, ?_, ?_⟩
  ·refine blk_far ?_ NB195_200.out _
   refine blk_far ?_ NB195_200.out _
   refine blk_far ?_ NB195_200.out _
   refine blk_far ?_ NB195_200.out _
   refine blk_far ?_ NB195_200.out _
   exact BK195.out
  ·refine blk_far ?_ NB199_200.out _
   refine blk_far ?_ NB199_200.out _
   refine blk_far ?_ NB199_200.out _
   refine blk_far ?_ NB199_200.out _
   refine blk_far ?_ NB199_200.out _
   exact BK199.out
  ·refine blk_put (cs := #[.int .u8 a0_0, .int .u8 a0_1, .int .u8 a0_2, .int .u8 a0_3, .int .i32 0]) ?_ 4 _ rfl
   refine blk_put (cs := #[.int .u8 a0_0, .int .u8 a0_1, .int .u8 a0_2, .int .u8 0, .int .i32 0]) ?_ 3 _ rfl
   refine blk_put (cs := #[.int .u8 a0_0, .int .u8 a0_1, .int .u8 0, .int .u8 0, .int .i32 0]) ?_ 2 _ rfl
   refine blk_put (cs := #[.int .u8 a0_0, .int .u8 0, .int .u8 0, .int .u8 0, .int .i32 0]) ?_ 1 _ rfl
   refine blk_put (cs := #[.int .u8 0, .int .u8 0, .int .u8 0, .int .u8 0, .int .i32 0]) ?_ 0 _ rfl
   exact BK200.out
  ·refine blk_far ?_ NB201_200.out _
   refine blk_far ?_ NB201_200.out _
   refine blk_far ?_ NB201_200.out _
   refine blk_far ?_ NB201_200.out _
   refine blk_far ?_ NB201_200.out _
   exact BK201.out
  ·refine blk_far ?_ NB202_200.out _
   refine blk_far ?_ NB202_200.out _
   refine blk_far ?_ NB202_200.out _
   refine blk_far ?_ NB202_200.out _
   refine blk_far ?_ NB202_200.out _
   exact BK202.out
  ·repeat (first | (with_reducible first | exact HB.out | apply below_alloc | apply pw_below_drewN | apply below_drew1 | refine below_set ?_ GE195.out | refine below_set ?_ GE199.out | refine below_set ?_ GE200.out | refine below_set ?_ GE201.out | refine below_set ?_ GE202.out) | exact HB.out)
 clear hHeld hs38 hfs38 hns38_0 hns38_1 hns38_3 hns38_4 hms38_0 hms38_1 hms38_3 hms38_4 hs39 hfs39 hns39_0 hns39_1 hns39_3 hns39_4 hms39_0 hms39_1 hms39_3 hms39_4 hs40 hfs40 hns40_0 hns40_1 hns40_3 hns40_4 hms40_0 hms40_1 hms40_3 hms40_4 hs41 hfs41 hns41_0 hns41_1 hns41_3 hns41_4 hms41_0 hms41_1 hms41_3 hms41_4 hs42 hfs42 hns42_0 hns42_1 hns42_3 hns42_4 hms42_0 hms42_1 hms42_3 hms42_4 BK195 BK199 BK200 BK201 BK202 HB
 rintro w33_2 ⟨hHeld, hb195_, hb199_, hb200_, hb201_, hb202_, hbw_⟩
 have BK195 := Aside0.mk hb195_
 have BK199 := Aside0.mk hb199_
 have BK200 := Aside0.mk hb200_
 have BK201 := Aside0.mk hb201_
 have BK202 := Aside0.mk hb202_
 have HB := Aside0.mk hbw_
 clear hb195_ hb199_ hb200_ hb201_ hb202_ hbw_
 refine one_ (i := 10) (N := none) zb23_PxF rfl rfl (one_of HT_.out (by kernel_rfl)) (by decide) (fun K hK => ?_)
 have hs43 : w33_2.cell? ⟨gb201, 0, none⟩ = some (.int .u8 0) := (blk_cell BK201.out 0).trans rfl
 have hfs43 := blk_frozen BK201.out 0
 have hns43_0 := NB195_201.out
 have hns43_1 := NB199_201.out
 have hns43_2 := NB200_201.out
 have hns43_4 := NB202_201.out
 have hms43_0 := NB201_195.out
 have hms43_1 := NB201_199.out
 have hms43_2 := NB201_200.out
 have hms43_4 := NB201_202.out
 have hs44 : w33_2.cell? ⟨gb201, 1, none⟩ = some (.int .u8 0) := (blk_cell BK201.out 1).trans rfl
 have hfs44 := blk_frozen BK201.out 1
 have hns44_0 := NB195_201.out
 have hns44_1 := NB199_201.out
 have hns44_2 := NB200_201.out
 have hns44_4 := NB202_201.out
 have hms44_0 := NB201_195.out
 have hms44_1 := NB201_199.out
 have hms44_2 := NB201_200.out
 have hms44_4 := NB201_202.out
 have hs45 : w33_2.cell? ⟨gb201, 2, none⟩ = some (.int .u8 0) := (blk_cell BK201.out 2).trans rfl
 have hfs45 := blk_frozen BK201.out 2
 have hns45_0 := NB195_201.out
 have hns45_1 := NB199_201.out
 have hns45_2 := NB200_201.out
 have hns45_4 := NB202_201.out
 have hms45_0 := NB201_195.out
 have hms45_1 := NB201_199.out
 have hms45_2 := NB201_200.out
 have hms45_4 := NB201_202.out
 have hs46 : w33_2.cell? ⟨gb201, 3, none⟩ = some (.int .u8 0) := (blk_cell BK201.out 3).trans rfl
 have hfs46 := blk_frozen BK201.out 3
 have hns46_0 := NB195_201.out
 have hns46_1 := NB199_201.out
 have hns46_2 := NB200_201.out
 have hns46_4 := NB202_201.out
 have hms46_0 := NB201_195.out
 have hms46_1 := NB201_199.out
 have hms46_2 := NB201_200.out
 have hms46_4 := NB201_202.out
 have hs47 : w33_2.cell? ⟨gb201, 4, none⟩ = some (.int .i32 0) := (blk_cell BK201.out 4).trans rfl
 have hfs47 := blk_frozen BK201.out 4
 have hns47_0 := NB195_201.out
 have hns47_1 := NB199_201.out
 have hns47_2 := NB200_201.out
 have hns47_4 := NB202_201.out
 have hms47_0 := NB201_195.out
 have hms47_1 := NB201_199.out
 have hms47_2 := NB201_200.out
 have hms47_4 := NB201_202.out
 refine skip_ (w1 := ?_) (by rfl) rfl ?_ ?_
 rotate_left
 ·go_simp
  rfl
 refine hK.out _ _ ⟨((cell_far (p := ⟨gb201, _, none⟩) NB195_201.out _).trans (((cell_far (p := ⟨gb201, _, none⟩) NB195_201.out _).trans (((cell_far (p := ⟨gb201, _, none⟩) NB195_201.out _).trans (((cell_far (p := ⟨gb201, _, none⟩) NB195_201.out _).trans (((cell_far (p := ⟨gb201, _, none⟩) NB195_201.out _).trans (hHeld.1)))))))))), ((cell_far (p := ⟨gb201, _, none⟩) NB195_201.out _).trans (((cell_far (p := ⟨gb201, _, none⟩) NB195_201.out _).trans (((cell_far (p := ⟨gb201, _, none⟩) NB195_201.out _).trans (((cell_far (p := ⟨gb201, _, none⟩) NB195_201.out _).trans (((cell_far (p := ⟨gb201, _, none⟩) NB195_201.out _).trans (hHeld.2.1)))))))))), ((cell_far (p := ⟨gb201, _, none⟩) NB195_201.out _).trans (((cell_far (p := ⟨gb201, _, none⟩) NB195_201.out _).trans (((cell_far (p := ⟨gb201, _, none⟩) NB195_201.out _).trans (((cell_far (p := ⟨gb201, _, none⟩) NB195_201.out _).trans (((cell_far (p := ⟨gb201, _, none⟩) NB195_201.out _).trans (hHeld.2.2.1)))))))))), ((cell_far (p := ⟨gb201, _, none⟩) NB195_201.out _).trans (((cell_far (p := ⟨gb201, _, none⟩) NB195_201.out _).trans (((cell_far (p := ⟨gb201, _, none⟩) NB195_201.out _).trans (((cell_far (p := ⟨gb201, _, none⟩) NB195_201.out _).trans (((cell_far (p := ⟨gb201, _, none⟩) NB195_201.out _).trans (hHeld.2.2.2.1)))))))))), ((cell_far (p := ⟨gb201, _, none⟩) NB195_201.out _).trans (((cell_far (p := ⟨gb201, _, none⟩) NB195_201.out _).trans (((cell_far (p := ⟨gb201, _, none⟩) NB195_201.out _).trans (((cell_far (p := ⟨gb201, _, none⟩) NB195_201.out _).trans (((cell_far (p := ⟨gb201, _, none⟩) NB195_201.out _).trans (hHeld.2.2.2.2))))))))))⟩ (fun hHeld => ?_)
 clear hK K
 refine gen_w (fun w' => (w'.cell? ⟨gb195, 0, none⟩ = some (.int .u8 a0_0) ∧ w'.cell? ⟨gb195, 1, none⟩ = some (.int .u8 a0_1) ∧ w'.cell? ⟨gb195, 2, none⟩ = some (.int .u8 a0_2) ∧ w'.cell? ⟨gb195, 3, none⟩ = some (.int .u8 a0_3) ∧ w'.cell? ⟨gb195, 4, none⟩ = some (.int .i32 a0_4)) ∧ w'.heap[gb195]? = some (.cells #[.int .u8 a0_0, .int .u8 a0_1, .int .u8 a0_2, .int .u8 a0_3, .int .i32 a0_4] 23 (0, 0)) ∧ w'.heap[gb199]? = some (.cells #[.int .u8 a0_0, .int .u8 a0_1, .int .u8 a0_2, .int .u8 a0_3, .int .i32 a0_4] 23 (0, 0)) ∧ w'.heap[gb200]? = some (.cells #[.int .u8 a0_0, .int .u8 a0_1, .int .u8 a0_2, .int .u8 a0_3, .int .i32 a0_4] 23 (0, 0)) ∧ w'.heap[gb201]? = some (.cells #[.int .u8 a0_0, .int .u8 a0_1, .int .u8 a0_2, .int .u8 a0_3, .int .i32 a0_4] 23 (0, 0)) ∧ w'.heap[gb202]? = some (.cells #[.int .u8 0, .int .u8 0, .int .u8 0, .int .u8 0, .int .i32 0] 23 (0, 0)) ∧ Below w.heap.size w w') ?_ ?_
 ·refine ⟨hHeld, ?_, ?_, ?_, ?_, ?_, ?_⟩
  ·refine blk_far ?_ NB195_201.out _
   refine blk_far ?_ NB195_201.out _
   refine blk_far ?_ NB195_201.out _
   refine blk_far ?_ NB195_201.out _
   refine blk_far ?_ NB195_201.out _
   exact BK195.out
  ·refine blk_far ?_ NB199_201.out _
   refine blk_far ?_ NB199_201.out _
   refine blk_far ?_ NB199_201.out _
   refine blk_far ?_ NB199_201.out _
   refine blk_far ?_ NB199_201.out _
   exact BK199.out
  ·refine blk_far ?_ NB200_201.out _
   refine blk_far ?_ NB200_201.out _
   refine blk_far ?_ NB200_201.out _
   refine blk_far ?_ NB200_201.out _
   refine blk_far ?_ NB200_201.out _
   exact BK200.out
  ·refine blk_put (cs := #[.int .u8 a0_0, .int .u8 a0_1, .int .u8 a0_2, .int .u8 a0_3, .int .i32 0]) ?_ 4 _ rfl
   refine blk_put (cs := #[.int .u8 a0_0, .int .u8 a0_1, .int .u8 a0_2, .int .u8 0, .int .i32 0]) ?_ 3 _ rfl
   refine blk_put (cs := #[.int .u8 a0_0, .int .u8 a0_1, .int .u8 0, .int .u8 0, .int .i32 0]) ?_ 2 _ rfl
   refine blk_put (cs := #[.int .u8 a0_0, .int .u8 0, .int .u8 0, .int .u8 0, .int .i32 0]) ?_ 1 _ rfl
   refine blk_put (cs := #[.int .u8 0, .int .u8 0, .int .u8 0, .int .u8 0, .int .i32 0]) ?_ 0 _ rfl
   exact BK201.out
  ·refine blk_far ?_ NB202_201.out _
   refine blk_far ?_ NB202_201.out _
   refine blk_far ?_ NB202_201.out _
   refine blk_far ?_ NB202_201.out _
   refine blk_far ?_ NB202_201.out _
   exact BK202.out
  ·repeat (first | (with_reducible first | exact HB.out | apply below_alloc | apply pw_below_drewN | apply below_drew1 | refine below_set ?_ GE195.out | refine below_set ?_ GE199.out | refine below_set ?_ GE200.out | refine below_set ?_ GE201.out | refine below_set ?_ GE202.out) | exact HB.out)
 clear hHeld hs43 hfs43 hns43_0 hns43_1 hns43_2 hns43_4 hms43_0 hms43_1 hms43_2 hms43_4 hs44 hfs44 hns44_0 hns44_1 hns44_2 hns44_4 hms44_0 hms44_1 hms44_2 hms44_4 hs45 hfs45 hns45_0 hns45_1 hns45_2 hns45_4 hms45_0 hms45_1 hms45_2 hms45_4 hs46 hfs46 hns46_0 hns46_1 hns46_2 hns46_4 hms46_0 hms46_1 hms46_2 hms46_4 hs47 hfs47 hns47_0 hns47_1 hns47_2 hns47_4 hms47_0 hms47_1 hms47_2 hms47_4 BK195 BK199 BK200 BK201 BK202 HB
 rintro w33_3 ⟨hHeld, hb195_, hb199_, hb200_, hb201_, hb202_, hbw_⟩
 have BK195 := Aside0.mk hb195_
 have BK199 := Aside0.mk hb199_
 have BK200 := Aside0.mk hb200_
 have BK201 := Aside0.mk hb201_
 have BK202 := Aside0.mk hb202_
 have HB := Aside0.mk hbw_
 clear hb195_ hb199_ hb200_ hb201_ hb202_ hbw_
 refine one_ (i := 11) (N := none) zb24_PxF rfl rfl (one_of HT_.out (by kernel_rfl)) (by decide) (fun K hK => ?_)
 have hs48 : w33_3.cell? ⟨gb202, 0, none⟩ = some (.int .u8 0) := (blk_cell BK202.out 0).trans rfl
 have hfs48 := blk_frozen BK202.out 0
 have hns48_0 := NB195_202.out
 have hns48_1 := NB199_202.out
 have hns48_2 := NB200_202.out
 have hns48_3 := NB201_202.out
 have hms48_0 := NB202_195.out
 have hms48_1 := NB202_199.out
 have hms48_2 := NB202_200.out
 have hms48_3 := NB202_201.out
 have hs49 : w33_3.cell? ⟨gb202, 1, none⟩ = some (.int .u8 0) := (blk_cell BK202.out 1).trans rfl
 have hfs49 := blk_frozen BK202.out 1
 have hns49_0 := NB195_202.out
 have hns49_1 := NB199_202.out
 have hns49_2 := NB200_202.out
 have hns49_3 := NB201_202.out
 have hms49_0 := NB202_195.out
 have hms49_1 := NB202_199.out
 have hms49_2 := NB202_200.out
 have hms49_3 := NB202_201.out
 have hs50 : w33_3.cell? ⟨gb202, 2, none⟩ = some (.int .u8 0) := (blk_cell BK202.out 2).trans rfl
 have hfs50 := blk_frozen BK202.out 2
 have hns50_0 := NB195_202.out
 have hns50_1 := NB199_202.out
 have hns50_2 := NB200_202.out
 have hns50_3 := NB201_202.out
 have hms50_0 := NB202_195.out
 have hms50_1 := NB202_199.out
 have hms50_2 := NB202_200.out
 have hms50_3 := NB202_201.out
 have hs51 : w33_3.cell? ⟨gb202, 3, none⟩ = some (.int .u8 0) := (blk_cell BK202.out 3).trans rfl
 have hfs51 := blk_frozen BK202.out 3
 have hns51_0 := NB195_202.out
 have hns51_1 := NB199_202.out
 have hns51_2 := NB200_202.out
 have hns51_3 := NB201_202.out
 have hms51_0 := NB202_195.out
 have hms51_1 := NB202_199.out
 have hms51_2 := NB202_200.out
 have hms51_3 := NB202_201.out
 have hs52 : w33_3.cell? ⟨gb202, 4, none⟩ = some (.int .i32 0) := (blk_cell BK202.out 4).trans rfl
 have hfs52 := blk_frozen BK202.out 4
 have hns52_0 := NB195_202.out
 have hns52_1 := NB199_202.out
 have hns52_2 := NB200_202.out
 have hns52_3 := NB201_202.out
 have hms52_0 := NB202_195.out
 have hms52_1 := NB202_199.out
 have hms52_2 := NB202_200.out
 have hms52_3 := NB202_201.out
 refine skip_ (w1 := ?_) (by rfl) rfl ?_ ?_
 rotate_left
 ·go_simp
  rfl
 refine hK.out _ _ ⟨((cell_far (p := ⟨gb202, _, none⟩) NB195_202.out _).trans (((cell_far (p := ⟨gb202, _, none⟩) NB195_202.out _).trans (((cell_far (p := ⟨gb202, _, none⟩) NB195_202.out _).trans (((cell_far (p := ⟨gb202, _, none⟩) NB195_202.out _).trans (((cell_far (p := ⟨gb202, _, none⟩) NB195_202.out _).trans (hHeld.1)))))))))), ((cell_far (p := ⟨gb202, _, none⟩) NB195_202.out _).trans (((cell_far (p := ⟨gb202, _, none⟩) NB195_202.out _).trans (((cell_far (p := ⟨gb202, _, none⟩) NB195_202.out _).trans (((cell_far (p := ⟨gb202, _, none⟩) NB195_202.out _).trans (((cell_far (p := ⟨gb202, _, none⟩) NB195_202.out _).trans (hHeld.2.1)))))))))), ((cell_far (p := ⟨gb202, _, none⟩) NB195_202.out _).trans (((cell_far (p := ⟨gb202, _, none⟩) NB195_202.out _).trans (((cell_far (p := ⟨gb202, _, none⟩) NB195_202.out _).trans (((cell_far (p := ⟨gb202, _, none⟩) NB195_202.out _).trans (((cell_far (p := ⟨gb202, _, none⟩) NB195_202.out _).trans (hHeld.2.2.1)))))))))), ((cell_far (p := ⟨gb202, _, none⟩) NB195_202.out _).trans (((cell_far (p := ⟨gb202, _, none⟩) NB195_202.out _).trans (((cell_far (p := ⟨gb202, _, none⟩) NB195_202.out _).trans (((cell_far (p := ⟨gb202, _, none⟩) NB195_202.out _).trans (((cell_far (p := ⟨gb202, _, none⟩) NB195_202.out _).trans (hHeld.2.2.2.1)))))))))), ((cell_far (p := ⟨gb202, _, none⟩) NB195_202.out _).trans (((cell_far (p := ⟨gb202, _, none⟩) NB195_202.out _).trans (((cell_far (p := ⟨gb202, _, none⟩) NB195_202.out _).trans (((cell_far (p := ⟨gb202, _, none⟩) NB195_202.out _).trans (((cell_far (p := ⟨gb202, _, none⟩) NB195_202.out _).trans (hHeld.2.2.2.2))))))))))⟩ (fun hHeld => ?_)
 clear hK K
 refine gen_w (fun w' => (w'.cell? ⟨gb195, 0, none⟩ = some (.int .u8 a0_0) ∧ w'.cell? ⟨gb195, 1, none⟩ = some (.int .u8 a0_1) ∧ w'.cell? ⟨gb195, 2, none⟩ = some (.int .u8 a0_2) ∧ w'.cell? ⟨gb195, 3, none⟩ = some (.int .u8 a0_3) ∧ w'.cell? ⟨gb195, 4, none⟩ = some (.int .i32 a0_4)) ∧ w'.heap[gb195]? = some (.cells #[.int .u8 a0_0, .int .u8 a0_1, .int .u8 a0_2, .int .u8 a0_3, .int .i32 a0_4] 23 (0, 0)) ∧ w'.heap[gb199]? = some (.cells #[.int .u8 a0_0, .int .u8 a0_1, .int .u8 a0_2, .int .u8 a0_3, .int .i32 a0_4] 23 (0, 0)) ∧ w'.heap[gb200]? = some (.cells #[.int .u8 a0_0, .int .u8 a0_1, .int .u8 a0_2, .int .u8 a0_3, .int .i32 a0_4] 23 (0, 0)) ∧ w'.heap[gb201]? = some (.cells #[.int .u8 a0_0, .int .u8 a0_1, .int .u8 a0_2, .int .u8 a0_3, .int .i32 a0_4] 23 (0, 0)) ∧ w'.heap[gb202]? = some (.cells #[.int .u8 a0_0, .int .u8 a0_1, .int .u8 a0_2, .int .u8 a0_3, .int .i32 a0_4] 23 (0, 0)) ∧ Below w.heap.size w w') ?_ ?_
 ·refine ⟨hHeld, ?_, ?_, ?_, ?_, ?_, ?_⟩
  ·refine blk_far ?_ NB195_202.out _
   refine blk_far ?_ NB195_202.out _
   refine blk_far ?_ NB195_202.out _
   refine blk_far ?_ NB195_202.out _
   refine blk_far ?_ NB195_202.out _
   exact BK195.out
  ·refine blk_far ?_ NB199_202.out _
   refine blk_far ?_ NB199_202.out _
   refine blk_far ?_ NB199_202.out _
   refine blk_far ?_ NB199_202.out _
   refine blk_far ?_ NB199_202.out _
   exact BK199.out
  ·refine blk_far ?_ NB200_202.out _
   refine blk_far ?_ NB200_202.out _
   refine blk_far ?_ NB200_202.out _
   refine blk_far ?_ NB200_202.out _
   refine blk_far ?_ NB200_202.out _
   exact BK200.out
  ·refine blk_far ?_ NB201_202.out _
   refine blk_far ?_ NB201_202.out _
   refine blk_far ?_ NB201_202.out _
   refine blk_far ?_ NB201_202.out _
   refine blk_far ?_ NB201_202.out _
   exact BK201.out
  ·refine blk_put (cs := #[.int .u8 a0_0, .int .u8 a0_1, .int .u8 a0_2, .int .u8 a0_3, .int .i32 0]) ?_ 4 _ rfl
   refine blk_put (cs := #[.int .u8 a0_0, .int .u8 a0_1, .int .u8 a0_2, .int .u8 0, .int .i32 0]) ?_ 3 _ rfl
   refine blk_put (cs := #[.int .u8 a0_0, .int .u8 a0_1, .int .u8 0, .int .u8 0, .int .i32 0]) ?_ 2 _ rfl
   refine blk_put (cs := #[.int .u8 a0_0, .int .u8 0, .int .u8 0, .int .u8 0, .int .i32 0]) ?_ 1 _ rfl
   refine blk_put (cs := #[.int .u8 0, .int .u8 0, .int .u8 0, .int .u8 0, .int .i32 0]) ?_ 0 _ rfl
   exact BK202.out
  ·repeat (first | (with_reducible first | exact HB.out | apply below_alloc | apply pw_below_drewN | apply below_drew1 | refine below_set ?_ GE195.out | refine below_set ?_ GE199.out | refine below_set ?_ GE200.out | refine below_set ?_ GE201.out | refine below_set ?_ GE202.out) | exact HB.out)
 clear hHeld hs48 hfs48 hns48_0 hns48_1 hns48_2 hns48_3 hms48_0 hms48_1 hms48_2 hms48_3 hs49 hfs49 hns49_0 hns49_1 hns49_2 hns49_3 hms49_0 hms49_1 hms49_2 hms49_3 hs50 hfs50 hns50_0 hns50_1 hns50_2 hns50_3 hms50_0 hms50_1 hms50_2 hms50_3 hs51 hfs51 hns51_0 hns51_1 hns51_2 hns51_3 hms51_0 hms51_1 hms51_2 hms51_3 hs52 hfs52 hns52_0 hns52_1 hns52_2 hns52_3 hms52_0 hms52_1 hms52_2 hms52_3 BK195 BK199 BK200 BK201 BK202 HB
 rintro w33_4 ⟨hHeld, hb195_, hb199_, hb200_, hb201_, hb202_, hbw_⟩
 have BK195 := Aside0.mk hb195_
 have BK199 := Aside0.mk hb199_
 have BK200 := Aside0.mk hb200_
 have BK201 := Aside0.mk hb201_
 have BK202 := Aside0.mk hb202_
 have HB := Aside0.mk hbw_
 clear hb195_ hb199_ hb200_ hb201_ hb202_ hbw_
 refine done_ (done_of HT_.out (by kernel_rfl)) ?_
 have hnbA_0 := NB195_199.out
 have hnbA_1 := NB195_200.out
 have hnbA_2 := NB195_201.out
 have hnbA_3 := NB195_202.out
 have hnbA_4 := NB199_200.out
 have hnbA_5 := NB199_201.out
 have hnbA_6 := NB199_202.out
 have hnbA_7 := NB200_199.out
 have hnbA_8 := NB200_201.out
 have hnbA_9 := NB200_202.out
 have hnbA_10 := NB201_199.out
 have hnbA_11 := NB201_200.out
 have hnbA_12 := NB201_202.out
 have hnbA_13 := NB202_199.out
 have hnbA_14 := NB202_200.out
 have hnbA_15 := NB202_201.out
 have hnbA_16 := NB199_195.out
 have hnbA_17 := NB200_195.out
 have hnbA_18 := NB201_195.out
 have hnbA_19 := NB202_195.out
 have hczA_195_0 : w33_4.cell? ⟨gb195, 0, none⟩ = some (.int .u8 a0_0) := (blk_cell BK195.out 0).trans rfl
 have hczA_195_1 : w33_4.cell? ⟨gb195, 1, none⟩ = some (.int .u8 a0_1) := (blk_cell BK195.out 1).trans rfl
 have hczA_195_2 : w33_4.cell? ⟨gb195, 2, none⟩ = some (.int .u8 a0_2) := (blk_cell BK195.out 2).trans rfl
 have hczA_195_3 : w33_4.cell? ⟨gb195, 3, none⟩ = some (.int .u8 a0_3) := (blk_cell BK195.out 3).trans rfl
 have hczA_195_4 : w33_4.cell? ⟨gb195, 4, none⟩ = some (.int .i32 a0_4) := (blk_cell BK195.out 4).trans rfl
 have hfzA_195_0 := blk_frozen BK195.out 0
 have hfzA_195_1 := blk_frozen BK195.out 1
 have hfzA_195_2 := blk_frozen BK195.out 2
 have hfzA_195_3 := blk_frozen BK195.out 3
 have hfzA_195_4 := blk_frozen BK195.out 4
 have hczA_199_0 : w33_4.cell? ⟨gb199, 0, none⟩ = some (.int .u8 a0_0) := (blk_cell BK199.out 0).trans rfl
 have hczA_199_1 : w33_4.cell? ⟨gb199, 1, none⟩ = some (.int .u8 a0_1) := (blk_cell BK199.out 1).trans rfl
 have hczA_199_2 : w33_4.cell? ⟨gb199, 2, none⟩ = some (.int .u8 a0_2) := (blk_cell BK199.out 2).trans rfl
 have hczA_199_3 : w33_4.cell? ⟨gb199, 3, none⟩ = some (.int .u8 a0_3) := (blk_cell BK199.out 3).trans rfl
 have hczA_199_4 : w33_4.cell? ⟨gb199, 4, none⟩ = some (.int .i32 a0_4) := (blk_cell BK199.out 4).trans rfl
 have hfzA_199_0 := blk_frozen BK199.out 0
 have hfzA_199_1 := blk_frozen BK199.out 1
 have hfzA_199_2 := blk_frozen BK199.out 2
 have hfzA_199_3 := blk_frozen BK199.out 3
 have hfzA_199_4 := blk_frozen BK199.out 4
 have hczA_200_0 : w33_4.cell? ⟨gb200, 0, none⟩ = some (.int .u8 a0_0) := (blk_cell BK200.out 0).trans rfl
 have hczA_200_1 : w33_4.cell? ⟨gb200, 1, none⟩ = some (.int .u8 a0_1) := (blk_cell BK200.out 1).trans rfl
 have hczA_200_2 : w33_4.cell? ⟨gb200, 2, none⟩ = some (.int .u8 a0_2) := (blk_cell BK200.out 2).trans rfl
 have hczA_200_3 : w33_4.cell? ⟨gb200, 3, none⟩ = some (.int .u8 a0_3) := (blk_cell BK200.out 3).trans rfl
 have hczA_200_4 : w33_4.cell? ⟨gb200, 4, none⟩ = some (.int .i32 a0_4) := (blk_cell BK200.out 4).trans rfl
 have hfzA_200_0 := blk_frozen BK200.out 0
 have hfzA_200_1 := blk_frozen BK200.out 1
 have hfzA_200_2 := blk_frozen BK200.out 2
 have hfzA_200_3 := blk_frozen BK200.out 3
 have hfzA_200_4 := blk_frozen BK200.out 4
 have hczA_201_0 : w33_4.cell? ⟨gb201, 0, none⟩ = some (.int .u8 a0_0) := (blk_cell BK201.out 0).trans rfl
 have hczA_201_1 : w33_4.cell? ⟨gb201, 1, none⟩ = some (.int .u8 a0_1) := (blk_cell BK201.out 1).trans rfl
 have hczA_201_2 : w33_4.cell? ⟨gb201, 2, none⟩ = some (.int .u8 a0_2) := (blk_cell BK201.out 2).trans rfl
 have hczA_201_3 : w33_4.cell? ⟨gb201, 3, none⟩ = some (.int .u8 a0_3) := (blk_cell BK201.out 3).trans rfl
 have hczA_201_4 : w33_4.cell? ⟨gb201, 4, none⟩ = some (.int .i32 a0_4) := (blk_cell BK201.out 4).trans rfl
 have hfzA_201_0 := blk_frozen BK201.out 0
 have hfzA_201_1 := blk_frozen BK201.out 1
 have hfzA_201_2 := blk_frozen BK201.out 2
 have hfzA_201_3 := blk_frozen BK201.out 3
 have hfzA_201_4 := blk_frozen BK201.out 4
 have hczA_202_0 : w33_4.cell? ⟨gb202, 0, none⟩ = some (.int .u8 a0_0) := (blk_cell BK202.out 0).trans rfl
 have hczA_202_1 : w33_4.cell? ⟨gb202, 1, none⟩ = some (.int .u8 a0_1) := (blk_cell BK202.out 1).trans rfl
 have hczA_202_2 : w33_4.cell? ⟨gb202, 2, none⟩ = some (.int .u8 a0_2) := (blk_cell BK202.out 2).trans rfl
 have hczA_202_3 : w33_4.cell? ⟨gb202, 3, none⟩ = some (.int .u8 a0_3) := (blk_cell BK202.out 3).trans rfl
 have hczA_202_4 : w33_4.cell? ⟨gb202, 4, none⟩ = some (.int .i32 a0_4) := (blk_cell BK202.out 4).trans rfl
 have hfzA_202_0 := blk_frozen BK202.out 0
 have hfzA_202_1 := blk_frozen BK202.out 1
 have hfzA_202_2 := blk_frozen BK202.out 2
 have hfzA_202_3 := blk_frozen BK202.out 3
 have hfzA_202_4 := blk_frozen BK202.out 4
 go_upto_region 8 with fail
 (try simp only [Act.put, List.setIfInBounds_toArray, List.set_cons_zero, List.set_cons_succ])
 refine gen_w (fun w' => w'.heap[gb195]? = some (.cells #[.int .u8 a0_0, .int .u8 a0_1, .int .u8 a0_2, .int .u8 a0_3, .int .i32 a0_4] 23 (0, 0)) ∧ w'.heap[gb199]? = some (.cells #[.int .u8 a0_0, .int .u8 a1, .int .u8 a0_2, .int .u8 a0_3, .int .i32 a0_4] 23 (0, 0)) ∧ w'.heap[gb200]? = some (.cells #[.int .u8 a0_0, .int .u8 a0_1, .int .u8 a2, .int .u8 a0_3, .int .i32 a0_4] 23 (0, 0)) ∧ w'.heap[gb201]? = some (.cells #[.int .u8 a0_0, .int .u8 a0_1, .int .u8 a0_2, .int .u8 a3, .int .i32 a0_4] 23 (0, 0)) ∧ w'.heap[gb202]? = some (.cells #[.int .u8 a0_0, .int .u8 a0_1, .int .u8 a0_2, .int .u8 a0_3, .int .i32 a4] 23 (0, 0)) ∧ Below w.heap.size w w') ?_ ?_
 ·refine ⟨?_, ?_, ?_, ?_, ?_, ?_⟩
  ·refine blk_far ?_ NB195_202.out _
   refine blk_far ?_ NB195_201.out _
   refine blk_far ?_ NB195_200.out _
   refine blk_far ?_ NB195_199.out _
   exact BK195.out
  ·refine blk_far ?_ NB199_202.out _
   refine blk_far ?_ NB199_201.out _
   refine blk_far ?_ NB199_200.out _
   refine blk_put (cs := #[.int .u8 a0_0, .int .u8 a0_1, .int .u8 a0_2, .int .u8 a0_3, .int .i32 a0_4]) ?_ 1 _ rfl
   exact BK199.out
  ·refine blk_far ?_ NB200_202.out _
   refine blk_far ?_ NB200_201.out _
   refine blk_put (cs := #[.int .u8 a0_0, .int .u8 a0_1, .int .u8 a0_2, .int .u8 a0_3, .int .i32 a0_4]) ?_ 2 _ rfl
   refine blk_far ?_ NB200_199.out _
   exact BK200.out
  ·refine blk_far ?_ NB201_202.out _
   refine blk_put (cs := #[.int .u8 a0_0, .int .u8 a0_1, .int .u8 a0_2, .int .u8 a0_3, .int .i32 a0_4]) ?_ 3 _ rfl
   refine blk_far ?_ NB201_200.out _
   refine blk_far ?_ NB201_199.out _
   exact BK201.out
  ·refine blk_put (cs := #[.int .u8 a0_0, .int .u8 a0_1, .int .u8 a0_2, .int .u8 a0_3, .int .i32 a0_4]) ?_ 4 _ rfl
   refine blk_far ?_ NB202_201.out _
   refine blk_far ?_ NB202_200.out _
   refine blk_far ?_ NB202_199.out _
   exact BK202.out
  ·repeat (first | (with_reducible first | exact HB.out | apply below_alloc | apply pw_below_drewN | apply below_drew1 | refine below_set ?_ GE195.out | refine below_set ?_ GE199.out | refine below_set ?_ GE200.out | refine below_set ?_ GE201.out | refine below_set ?_ GE202.out) | exact HB.out)
 clear hHeld hnbA_0 hnbA_1 hnbA_2 hnbA_3 hnbA_4 hnbA_5 hnbA_6 hnbA_7 hnbA_8 hnbA_9 hnbA_10 hnbA_11 hnbA_12 hnbA_13 hnbA_14 hnbA_15 hnbA_16 hnbA_17 hnbA_18 hnbA_19 hczA_195_0 hczA_195_1 hczA_195_2 hczA_195_3 hczA_195_4 hfzA_195_0 hfzA_195_1 hfzA_195_2 hfzA_195_3 hfzA_195_4 hczA_199_0 hczA_199_1 hczA_199_2 hczA_199_3 hczA_199_4 hfzA_199_0 hfzA_199_1 hfzA_199_2 hfzA_199_3 hfzA_199_4 hczA_200_0 hczA_200_1 hczA_200_2 hczA_200_3 hczA_200_4 hfzA_200_0 hfzA_200_1 hfzA_200_2 hfzA_200_3 hfzA_200_4 hczA_201_0 hczA_201_1 hczA_201_2 hczA_201_3 hczA_201_4 hfzA_201_0 hfzA_201_1 hfzA_201_2 hfzA_201_3 hfzA_201_4 hczA_202_0 hczA_202_1 hczA_202_2 hczA_202_3 hczA_202_4 hfzA_202_0 hfzA_202_1 hfzA_202_2 hfzA_202_3 hfzA_202_4 BK195 BK199 BK200 BK201 BK202 HB
 rintro w34 ⟨hb195_, hb199_, hb200_, hb201_, hb202_, hbw_⟩
 have BK195 := Aside0.mk hb195_
 have BK199 := Aside0.mk hb199_
 have BK200 := Aside0.mk hb200_
 have BK201 := Aside0.mk hb201_
 have BK202 := Aside0.mk hb202_
 have HB := Aside0.mk hbw_
 clear hb195_ hb199_ hb200_ hb201_ hb202_ hbw_
 have hnbB_0 := NB195_199.out
 have hnbB_1 := NB195_200.out
 have hnbB_2 := NB195_201.out
 have hnbB_3 := NB195_202.out
 have hnbB_4 := NB199_200.out
 have hnbB_5 := NB199_201.out
 have hnbB_6 := NB199_202.out
 have hnbB_7 := NB200_199.out
 have hnbB_8 := NB200_201.out
 have hnbB_9 := NB200_202.out
 have hnbB_10 := NB201_199.out
 have hnbB_11 := NB201_200.out
 have hnbB_12 := NB201_202.out
 have hnbB_13 := NB202_199.out
 have hnbB_14 := NB202_200.out
 have hnbB_15 := NB202_201.out
 have hnbB_16 := NB199_195.out
 have hnbB_17 := NB200_195.out
 have hnbB_18 := NB201_195.out
 have hnbB_19 := NB202_195.out
 have hczB_195_0 : w34.cell? ⟨gb195, 0, none⟩ = some (.int .u8 a0_0) := (blk_cell BK195.out 0).trans rfl
 have hczB_195_1 : w34.cell? ⟨gb195, 1, none⟩ = some (.int .u8 a0_1) := (blk_cell BK195.out 1).trans rfl
 have hczB_195_2 : w34.cell? ⟨gb195, 2, none⟩ = some (.int .u8 a0_2) := (blk_cell BK195.out 2).trans rfl
 have hczB_195_3 : w34.cell? ⟨gb195, 3, none⟩ = some (.int .u8 a0_3) := (blk_cell BK195.out 3).trans rfl
 have hczB_195_4 : w34.cell? ⟨gb195, 4, none⟩ = some (.int .i32 a0_4) := (blk_cell BK195.out 4).trans rfl
 have hfzB_195_0 := blk_frozen BK195.out 0
 have hfzB_195_1 := blk_frozen BK195.out 1
 have hfzB_195_2 := blk_frozen BK195.out 2
 have hfzB_195_3 := blk_frozen BK195.out 3
 have hfzB_195_4 := blk_frozen BK195.out 4
 have hczB_199_0 : w34.cell? ⟨gb199, 0, none⟩ = some (.int .u8 a0_0) := (blk_cell BK199.out 0).trans rfl
 have hczB_199_1 : w34.cell? ⟨gb199, 1, none⟩ = some (.int .u8 a1) := (blk_cell BK199.out 1).trans rfl
 have hczB_199_2 : w34.cell? ⟨gb199, 2, none⟩ = some (.int .u8 a0_2) := (blk_cell BK199.out 2).trans rfl
 have hczB_199_3 : w34.cell? ⟨gb199, 3, none⟩ = some (.int .u8 a0_3) := (blk_cell BK199.out 3).trans rfl
 have hczB_199_4 : w34.cell? ⟨gb199, 4, none⟩ = some (.int .i32 a0_4) := (blk_cell BK199.out 4).trans rfl
 have hfzB_199_0 := blk_frozen BK199.out 0
 have hfzB_199_1 := blk_frozen BK199.out 1
 have hfzB_199_2 := blk_frozen BK199.out 2
 have hfzB_199_3 := blk_frozen BK199.out 3
 have hfzB_199_4 := blk_frozen BK199.out 4
 have hczB_200_0 : w34.cell? ⟨gb200, 0, none⟩ = some (.int .u8 a0_0) := (blk_cell BK200.out 0).trans rfl
 have hczB_200_1 : w34.cell? ⟨gb200, 1, none⟩ = some (.int .u8 a0_1) := (blk_cell BK200.out 1).trans rfl
 have hczB_200_2 : w34.cell? ⟨gb200, 2, none⟩ = some (.int .u8 a2) := (blk_cell BK200.out 2).trans rfl
 have hczB_200_3 : w34.cell? ⟨gb200, 3, none⟩ = some (.int .u8 a0_3) := (blk_cell BK200.out 3).trans rfl
 have hczB_200_4 : w34.cell? ⟨gb200, 4, none⟩ = some (.int .i32 a0_4) := (blk_cell BK200.out 4).trans rfl
 have hfzB_200_0 := blk_frozen BK200.out 0
 have hfzB_200_1 := blk_frozen BK200.out 1
 have hfzB_200_2 := blk_frozen BK200.out 2
 have hfzB_200_3 := blk_frozen BK200.out 3
 have hfzB_200_4 := blk_frozen BK200.out 4
 have hczB_201_0 : w34.cell? ⟨gb201, 0, none⟩ = some (.int .u8 a0_0) := (blk_cell BK201.out 0).trans rfl
 have hczB_201_1 : w34.cell? ⟨gb201, 1, none⟩ = some (.int .u8 a0_1) := (blk_cell BK201.out 1).trans rfl
 have hczB_201_2 : w34.cell? ⟨gb201, 2, none⟩ = some (.int .u8 a0_2) := (blk_cell BK201.out 2).trans rfl
 have hczB_201_3 : w34.cell? ⟨gb201, 3, none⟩ = some (.int .u8 a3) := (blk_cell BK201.out 3).trans rfl
 have hczB_201_4 : w34.cell? ⟨gb201, 4, none⟩ = some (.int .i32 a0_4) := (blk_cell BK201.out 4).trans rfl
 have hfzB_201_0 := blk_frozen BK201.out 0
 have hfzB_201_1 := blk_frozen BK201.out 1
 have hfzB_201_2 := blk_frozen BK201.out 2
 have hfzB_201_3 := blk_frozen BK201.out 3
 have hfzB_201_4 := blk_frozen BK201.out 4
 have hczB_202_0 : w34.cell? ⟨gb202, 0, none⟩ = some (.int .u8 a0_0) := (blk_cell BK202.out 0).trans rfl
 have hczB_202_1 : w34.cell? ⟨gb202, 1, none⟩ = some (.int .u8 a0_1) := (blk_cell BK202.out 1).trans rfl
 have hczB_202_2 : w34.cell? ⟨gb202, 2, none⟩ = some (.int .u8 a0_2) := (blk_cell BK202.out 2).trans rfl
 have hczB_202_3 : w34.cell? ⟨gb202, 3, none⟩ = some (.int .u8 a0_3) := (blk_cell BK202.out 3).trans rfl
 have hczB_202_4 : w34.cell? ⟨gb202, 4, none⟩ = some (.int .i32 a4) := (blk_cell BK202.out 4).trans rfl
 have hfzB_202_0 := blk_frozen BK202.out 0
 have hfzB_202_1 := blk_frozen BK202.out 1
 have hfzB_202_2 := blk_frozen BK202.out 2
 have hfzB_202_3 := blk_frozen BK202.out 3
 have hfzB_202_4 := blk_frozen BK202.out 4
 go_upto_region 12 with (first | ((with_reducible refine gate_callee (f := 11) rfl ?_); refine goesL_ (some 48) rfl rfl Tryd.func11 (by kernel_rfl) rfl #[.agg #[.int .u8 a0_0, .int .u8 a1, .int .u8 a0_2, .int .u8 a0_3, .int .i32 a0_4]] rfl (by (try simp only [List.map_toArray, List.map_cons, List.map_nil]); first | done | rfl | (simp only [List.length_drop, List.length_take]; rfl)) ?_; (with_reducible refine (isa_Enc.calls k a0_0 a1 a0_2 a0_3 a0_4 t203 t204 _ A10.out).mono ?_); rintro e w67 ⟨rfl, hb⟩; refine ⟨_, rfl, ?_⟩; have n0_ := Aside0.mk (blk_below (g := gb195) (o := .cells #[.int .u8 a0_0, .int .u8 a0_1, .int .u8 a0_2, .int .u8 a0_3, .int .i32 a0_4] 23 (0, 0)) (by (with_reducible repeat (first | refine blk_drewN ?_ _ | refine blk_drew ?_ | refine blk_alloc ?_ _)); exact BK195.out) hb); have n1_ := Aside0.mk (blk_below (g := gb199) (o := .cells #[.int .u8 a0_0, .int .u8 a1, .int .u8 a0_2, .int .u8 a0_3, .int .i32 a0_4] 23 (0, 0)) (by (with_reducible repeat (first | refine blk_drewN ?_ _ | refine blk_drew ?_ | refine blk_alloc ?_ _)); exact BK199.out) hb); have n2_ := Aside0.mk (blk_below (g := gb200) (o := .cells #[.int .u8 a0_0, .int .u8 a0_1, .int .u8 a2, .int .u8 a0_3, .int .i32 a0_4] 23 (0, 0)) (by (with_reducible repeat (first | refine blk_drewN ?_ _ | refine blk_drew ?_ | refine blk_alloc ?_ _)); exact BK200.out) hb); have n3_ := Aside0.mk (blk_below (g := gb201) (o := .cells #[.int .u8 a0_0, .int .u8 a0_1, .int .u8 a0_2, .int .u8 a3, .int .i32 a0_4] 23 (0, 0)) (by (with_reducible repeat (first | refine blk_drewN ?_ _ | refine blk_drew ?_ | refine blk_alloc ?_ _)); exact BK201.out) hb); have n4_ := Aside0.mk (blk_below (g := gb202) (o := .cells #[.int .u8 a0_0, .int .u8 a0_1, .int .u8 a0_2, .int .u8 a0_3, .int .i32 a4] 23 (0, 0)) (by (with_reducible repeat (first | refine blk_drewN ?_ _ | refine blk_drew ?_ | refine blk_alloc ?_ _)); exact BK202.out) hb); have n5_ := Aside0.mk (below_step (by repeat (first | (with_reducible first | exact HB.out | apply below_alloc | apply pw_below_drewN | apply below_drew1 | refine below_set ?_ GE195.out | refine below_set ?_ GE199.out | refine below_set ?_ GE200.out | refine below_set ?_ GE201.out | refine below_set ?_ GE202.out) | exact HB.out)) hb); clear BK195; clear BK199; clear BK200; clear BK201; clear BK202; clear HB; have BK195 := n0_; have BK199 := n1_; have BK200 := n2_; have BK201 := n3_; have BK202 := n4_; have HB := n5_; clear n0_ n1_ n2_ n3_ n4_ n5_; (try clear hb); (try clear hb2); (try clear hk); (try clear hi); have hcz68_0 : w67.cell? ⟨gb200, 0, none⟩ = some (.int .u8 a0_0) := (blk_cell BK200.out 0).trans rfl; have hcz68_1 : w67.cell? ⟨gb200, 1, none⟩ = some (.int .u8 a0_1) := (blk_cell BK200.out 1).trans rfl; have hcz68_2 : w67.cell? ⟨gb200, 2, none⟩ = some (.int .u8 a2) := (blk_cell BK200.out 2).trans rfl; have hcz68_3 : w67.cell? ⟨gb200, 3, none⟩ = some (.int .u8 a0_3) := (blk_cell BK200.out 3).trans rfl; have hcz68_4 : w67.cell? ⟨gb200, 4, none⟩ = some (.int .i32 a0_4) := (blk_cell BK200.out 4).trans rfl; have hfz68_0 := blk_frozen BK200.out 0; have hfz68_1 := blk_frozen BK200.out 1; have hfz68_2 := blk_frozen BK200.out 2; have hfz68_3 := blk_frozen BK200.out 3; have hfz68_4 := blk_frozen BK200.out 4) | ((with_reducible refine gate_callee (f := 11) rfl ?_); refine goesL_ (some 53) rfl rfl Tryd.func11 (by kernel_rfl) rfl #[.agg #[.int .u8 a0_0, .int .u8 a0_1, .int .u8 a2, .int .u8 a0_3, .int .i32 a0_4]] rfl (by (try simp only [List.map_toArray, List.map_cons, List.map_nil]); first | done | rfl | (simp only [List.length_drop, List.length_take]; rfl)) ?_; (with_reducible refine (isa_Enc.calls k a0_0 a0_1 a2 a0_3 a0_4 t205 t206 _ A11.out).mono ?_); rintro e w69 ⟨rfl, hb⟩; refine ⟨_, rfl, ?_⟩; have n0_ := Aside0.mk (blk_below (g := gb195) (o := .cells #[.int .u8 a0_0, .int .u8 a0_1, .int .u8 a0_2, .int .u8 a0_3, .int .i32 a0_4] 23 (0, 0)) (by (with_reducible repeat (first | refine blk_drewN ?_ _ | refine blk_drew ?_ | refine blk_alloc ?_ _)); exact BK195.out) hb); have n1_ := Aside0.mk (blk_below (g := gb199) (o := .cells #[.int .u8 a0_0, .int .u8 a1, .int .u8 a0_2, .int .u8 a0_3, .int .i32 a0_4] 23 (0, 0)) (by (with_reducible repeat (first | refine blk_drewN ?_ _ | refine blk_drew ?_ | refine blk_alloc ?_ _)); exact BK199.out) hb); have n2_ := Aside0.mk (blk_below (g := gb200) (o := .cells #[.int .u8 a0_0, .int .u8 a0_1, .int .u8 a2, .int .u8 a0_3, .int .i32 a0_4] 23 (0, 0)) (by (with_reducible repeat (first | refine blk_drewN ?_ _ | refine blk_drew ?_ | refine blk_alloc ?_ _)); exact BK200.out) hb); have n3_ := Aside0.mk (blk_below (g := gb201) (o := .cells #[.int .u8 a0_0, .int .u8 a0_1, .int .u8 a0_2, .int .u8 a3, .int .i32 a0_4] 23 (0, 0)) (by (with_reducible repeat (first | refine blk_drewN ?_ _ | refine blk_drew ?_ | refine blk_alloc ?_ _)); exact BK201.out) hb); have n4_ := Aside0.mk (blk_below (g := gb202) (o := .cells #[.int .u8 a0_0, .int .u8 a0_1, .int .u8 a0_2, .int .u8 a0_3, .int .i32 a4] 23 (0, 0)) (by (with_reducible repeat (first | refine blk_drewN ?_ _ | refine blk_drew ?_ | refine blk_alloc ?_ _)); exact BK202.out) hb); have n5_ := Aside0.mk (below_step (by repeat (first | (with_reducible first | exact HB.out | apply below_alloc | apply pw_below_drewN | apply below_drew1 | refine below_set ?_ GE195.out | refine below_set ?_ GE199.out | refine below_set ?_ GE200.out | refine below_set ?_ GE201.out | refine below_set ?_ GE202.out) | exact HB.out)) hb); clear BK195; clear BK199; clear BK200; clear BK201; clear BK202; clear HB; have BK195 := n0_; have BK199 := n1_; have BK200 := n2_; have BK201 := n3_; have BK202 := n4_; have HB := n5_; clear n0_ n1_ n2_ n3_ n4_ n5_; (try clear hb); (try clear hb2); (try clear hk); (try clear hi); have hcz70_0 : w69.cell? ⟨gb201, 0, none⟩ = some (.int .u8 a0_0) := (blk_cell BK201.out 0).trans rfl; have hcz70_1 : w69.cell? ⟨gb201, 1, none⟩ = some (.int .u8 a0_1) := (blk_cell BK201.out 1).trans rfl; have hcz70_2 : w69.cell? ⟨gb201, 2, none⟩ = some (.int .u8 a0_2) := (blk_cell BK201.out 2).trans rfl; have hcz70_3 : w69.cell? ⟨gb201, 3, none⟩ = some (.int .u8 a3) := (blk_cell BK201.out 3).trans rfl; have hcz70_4 : w69.cell? ⟨gb201, 4, none⟩ = some (.int .i32 a0_4) := (blk_cell BK201.out 4).trans rfl; have hfz70_0 := blk_frozen BK201.out 0; have hfz70_1 := blk_frozen BK201.out 1; have hfz70_2 := blk_frozen BK201.out 2; have hfz70_3 := blk_frozen BK201.out 3; have hfz70_4 := blk_frozen BK201.out 4) | ((with_reducible refine gate_callee (f := 11) rfl ?_); refine goesL_ (some 58) rfl rfl Tryd.func11 (by kernel_rfl) rfl #[.agg #[.int .u8 a0_0, .int .u8 a0_1, .int .u8 a0_2, .int .u8 a3, .int .i32 a0_4]] rfl (by (try simp only [List.map_toArray, List.map_cons, List.map_nil]); first | done | rfl | (simp only [List.length_drop, List.length_take]; rfl)) ?_; (with_reducible refine (isa_Enc.calls k a0_0 a0_1 a0_2 a3 a0_4 t207 t208 _ A12.out).mono ?_); rintro e w71 ⟨rfl, hb⟩; refine ⟨_, rfl, ?_⟩; have n0_ := Aside0.mk (blk_below (g := gb195) (o := .cells #[.int .u8 a0_0, .int .u8 a0_1, .int .u8 a0_2, .int .u8 a0_3, .int .i32 a0_4] 23 (0, 0)) (by (with_reducible repeat (first | refine blk_drewN ?_ _ | refine blk_drew ?_ | refine blk_alloc ?_ _)); exact BK195.out) hb); have n1_ := Aside0.mk (blk_below (g := gb199) (o := .cells #[.int .u8 a0_0, .int .u8 a1, .int .u8 a0_2, .int .u8 a0_3, .int .i32 a0_4] 23 (0, 0)) (by (with_reducible repeat (first | refine blk_drewN ?_ _ | refine blk_drew ?_ | refine blk_alloc ?_ _)); exact BK199.out) hb); have n2_ := Aside0.mk (blk_below (g := gb200) (o := .cells #[.int .u8 a0_0, .int .u8 a0_1, .int .u8 a2, .int .u8 a0_3, .int .i32 a0_4] 23 (0, 0)) (by (with_reducible repeat (first | refine blk_drewN ?_ _ | refine blk_drew ?_ | refine blk_alloc ?_ _)); exact BK200.out) hb); have n3_ := Aside0.mk (blk_below (g := gb201) (o := .cells #[.int .u8 a0_0, .int .u8 a0_1, .int .u8 a0_2, .int .u8 a3, .int .i32 a0_4] 23 (0, 0)) (by (with_reducible repeat (first | refine blk_drewN ?_ _ | refine blk_drew ?_ | refine blk_alloc ?_ _)); exact BK201.out) hb); have n4_ := Aside0.mk (blk_below (g := gb202) (o := .cells #[.int .u8 a0_0, .int .u8 a0_1, .int .u8 a0_2, .int .u8 a0_3, .int .i32 a4] 23 (0, 0)) (by (with_reducible repeat (first | refine blk_drewN ?_ _ | refine blk_drew ?_ | refine blk_alloc ?_ _)); exact BK202.out) hb); have n5_ := Aside0.mk (below_step (by repeat (first | (with_reducible first | exact HB.out | apply below_alloc | apply pw_below_drewN | apply below_drew1 | refine below_set ?_ GE195.out | refine below_set ?_ GE199.out | refine below_set ?_ GE200.out | refine below_set ?_ GE201.out | refine below_set ?_ GE202.out) | exact HB.out)) hb); clear BK195; clear BK199; clear BK200; clear BK201; clear BK202; clear HB; have BK195 := n0_; have BK199 := n1_; have BK200 := n2_; have BK201 := n3_; have BK202 := n4_; have HB := n5_; clear n0_ n1_ n2_ n3_ n4_ n5_; (try clear hb); (try clear hb2); (try clear hk); (try clear hi); have hcz72_0 : w71.cell? ⟨gb202, 0, none⟩ = some (.int .u8 a0_0) := (blk_cell BK202.out 0).trans rfl; have hcz72_1 : w71.cell? ⟨gb202, 1, none⟩ = some (.int .u8 a0_1) := (blk_cell BK202.out 1).trans rfl; have hcz72_2 : w71.cell? ⟨gb202, 2, none⟩ = some (.int .u8 a0_2) := (blk_cell BK202.out 2).trans rfl; have hcz72_3 : w71.cell? ⟨gb202, 3, none⟩ = some (.int .u8 a0_3) := (blk_cell BK202.out 3).trans rfl; have hcz72_4 : w71.cell? ⟨gb202, 4, none⟩ = some (.int .i32 a4) := (blk_cell BK202.out 4).trans rfl; have hfz72_0 := blk_frozen BK202.out 0; have hfz72_1 := blk_frozen BK202.out 1; have hfz72_2 := blk_frozen BK202.out 2; have hfz72_3 := blk_frozen BK202.out 3; have hfz72_4 := blk_frozen BK202.out 4) | ((with_reducible refine gate_callee (f := 11) rfl ?_); refine goesL_ (some 63) rfl rfl Tryd.func11 (by kernel_rfl) rfl #[.agg #[.int .u8 a0_0, .int .u8 a0_1, .int .u8 a0_2, .int .u8 a0_3, .int .i32 a4]] rfl (by (try simp only [List.map_toArray, List.map_cons, List.map_nil]); first | done | rfl | (simp only [List.length_drop, List.length_take]; rfl)) ?_; (with_reducible refine (isa_Enc.calls k a0_0 a0_1 a0_2 a0_3 a4 t209 t210 _ A13.out).mono ?_); rintro e w73 ⟨rfl, hb⟩; refine ⟨_, rfl, ?_⟩; have n0_ := Aside0.mk (blk_below (g := gb195) (o := .cells #[.int .u8 a0_0, .int .u8 a0_1, .int .u8 a0_2, .int .u8 a0_3, .int .i32 a0_4] 23 (0, 0)) (by (with_reducible repeat (first | refine blk_drewN ?_ _ | refine blk_drew ?_ | refine blk_alloc ?_ _)); exact BK195.out) hb); have n1_ := Aside0.mk (blk_below (g := gb199) (o := .cells #[.int .u8 a0_0, .int .u8 a1, .int .u8 a0_2, .int .u8 a0_3, .int .i32 a0_4] 23 (0, 0)) (by (with_reducible repeat (first | refine blk_drewN ?_ _ | refine blk_drew ?_ | refine blk_alloc ?_ _)); exact BK199.out) hb); have n2_ := Aside0.mk (blk_below (g := gb200) (o := .cells #[.int .u8 a0_0, .int .u8 a0_1, .int .u8 a2, .int .u8 a0_3, .int .i32 a0_4] 23 (0, 0)) (by (with_reducible repeat (first | refine blk_drewN ?_ _ | refine blk_drew ?_ | refine blk_alloc ?_ _)); exact BK200.out) hb); have n3_ := Aside0.mk (blk_below (g := gb201) (o := .cells #[.int .u8 a0_0, .int .u8 a0_1, .int .u8 a0_2, .int .u8 a3, .int .i32 a0_4] 23 (0, 0)) (by (with_reducible repeat (first | refine blk_drewN ?_ _ | refine blk_drew ?_ | refine blk_alloc ?_ _)); exact BK201.out) hb); have n4_ := Aside0.mk (blk_below (g := gb202) (o := .cells #[.int .u8 a0_0, .int .u8 a0_1, .int .u8 a0_2, .int .u8 a0_3, .int .i32 a4] 23 (0, 0)) (by (with_reducible repeat (first | refine blk_drewN ?_ _ | refine blk_drew ?_ | refine blk_alloc ?_ _)); exact BK202.out) hb); have n5_ := Aside0.mk (below_step (by repeat (first | (with_reducible first | exact HB.out | apply below_alloc | apply pw_below_drewN | apply below_drew1 | refine below_set ?_ GE195.out | refine below_set ?_ GE199.out | refine below_set ?_ GE200.out | refine below_set ?_ GE201.out | refine below_set ?_ GE202.out) | exact HB.out)) hb); clear BK195; clear BK199; clear BK200; clear BK201; clear BK202; clear HB; have BK195 := n0_; have BK199 := n1_; have BK200 := n2_; have BK201 := n3_; have BK202 := n4_; have HB := n5_; clear n0_ n1_ n2_ n3_ n4_ n5_; (try clear hb); (try clear hb2); (try clear hk); (try clear hi)))
 (try simp only [Act.put, List.setIfInBounds_toArray, List.set_cons_zero, List.set_cons_succ])
 have D1 : ((t204 == 0) = true ∧ (t204 != 0) = false ∧ ((Go.bits .andNot .u32 (Go.bits .xor .u32 t197 t203) 62914560) == 0) = true ∧ ((Go.bits .and .u32 (t203 / 4194304) 15) == (a1 % 4294967296)) = true) ∨ ((t204 == 0) = false ∧ (t204 != 0) = true) := by
  by_cases h : t204 = 0
  ·exact Or.inl ⟨beq_iff_eq.mpr h, bne_eq_false_iff_eq.mpr h, beq_iff_eq.mpr (F1.out h).1, beq_iff_eq.mpr (F1.out h).2⟩
  ·exact Or.inr ⟨beq_eq_false_iff_ne.mpr h, bne_iff_ne.mpr h⟩
 have D2 : ((t206 == 0) = true ∧ (t206 != 0) = false ∧ ((Go.bits .andNot .u32 (Go.bits .xor .u32 t197 t205) 3932160) == 0) = true ∧ ((Go.bits .and .u32 (t205 / 262144) 15) == (a2 % 4294967296)) = true) ∨ ((t206 == 0) = false ∧ (t206 != 0) = true) := by
  by_cases h : t206 = 0
  ·exact Or.inl ⟨beq_iff_eq.mpr h, bne_eq_false_iff_eq.mpr h, beq_iff_eq.mpr (F2.out h).1, beq_iff_eq.mpr (F2.out h).2⟩
  ·exact Or.inr ⟨beq_eq_false_iff_ne.mpr h, bne_iff_ne.mpr h⟩
 have D3 : ((t208 == 0) = true ∧ (t208 != 0) = false ∧ ((Go.bits .andNot .u32 (Go.bits .xor .u32 t197 t207) 245760) == 0) = true) ∨ ((t208 == 0) = false ∧ (t208 != 0) = true) := by
  by_cases h : t208 = 0
  ·exact Or.inl ⟨beq_iff_eq.mpr h, bne_eq_false_iff_eq.mpr h, beq_iff_eq.mpr (F3.out h)⟩
  ·exact Or.inr ⟨beq_eq_false_iff_ne.mpr h, bne_iff_ne.mpr h⟩
 have D4 : ((t210 == 0) = true ∧ (t210 != 0) = false ∧ (((Go.bits .xor .u32 t197 t209) / 65536) == 0) = true) ∨ ((t210 == 0) = false ∧ (t210 != 0) = true) := by
  by_cases h : t210 = 0
  ·exact Or.inl ⟨beq_iff_eq.mpr h, bne_eq_false_iff_eq.mpr h, beq_iff_eq.mpr (F4.out h)⟩
  ·exact Or.inr ⟨beq_eq_false_iff_ne.mpr h, bne_iff_ne.mpr h⟩
 clear F1 F2 F3 F4
 rcases D1 with ⟨c14b0, c14b1, c15b0, c16b0⟩ | ⟨c14b0, c14b1⟩ <;> rcases D2 with ⟨c17b0, c17b1, c18b0, c19b0⟩ | ⟨c17b0, c17b1⟩ <;> rcases D3 with ⟨c20b0, c20b1, c21b0⟩ | ⟨c20b0, c20b1⟩ <;> rcases D4 with ⟨c22b0, c22b1, c23b0⟩ | ⟨c22b0, c22b1⟩
 all_goals go_wp2
 all_goals go_ret
 all_goals (exact ⟨by first | exact rfl | (with_unfolding_all exact rfl) | kernel_rfl | rfl | (simp [errW_none, errW_some] <;> rfl) | (simp [*, errW_none, errW_some] <;> rfl), by repeat (first | (with_reducible first | exact HB.out | apply below_alloc | apply pw_below_drewN | apply below_drew1 | refine below_set ?_ GE195.out | refine below_set ?_ GE199.out | refine below_set ?_ GE200.out | refine below_set ?_ GE201.out | refine below_set ?_ GE202.out) | exact HB.out)⟩)
end
end Go.Proofs.YthdfkbkenklcaaaDoor.P
end
