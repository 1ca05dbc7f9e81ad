-- Printed for this claim and put together by wip/tools/prune.py.
import Derived.Test.YtiklcpacbclpnaaDoorCUns1
import Derived.Test.YtiklcpacbclpnaaDoorCUns2
import Derived.Test.YtiklcpacbclpnaaDoorCUns4
set_option linter.unusedVariables false
set_option linter.unusedSimpArgs false
section
set_option linter.unusedVariables false
set_option linter.unusedSimpArgs false
namespace Go.Proofs.YtiklcpacbclpnaaDoor.P
open Go.RowKit Go.Proofs.YtiklcpacbclpnaaDoorW.PrintWords Go.Proofs.YtiklcpacbclpnaaDoorW.PrintLast Go.Proofs.YtiklcpacbclpnaaDoorW.PrintMore
def rkId (op : Int) : Nat := if op = 1 then 32 else if op = 2 then 33 else if op = 3 then 34 else if op = 4 then 35 else if op = 5 then 36 else if op = 6 then 37 else if op = 7 then 38 else if op = 8 then 39 else if op = 9 then 40 else if op = 10 then 41 else if op = 11 then 42 else if op = 12 then 43 else 45
set_option maxHeartbeats 8000000 in
set_option maxRecDepth 100000 in
theorem reckon_calls (op : Int) (w : World) :
    Calls Tryd.prog 15 #[.int .u8 op] w fun e w' => e = .returned (.func (.func (rkId op)) #[] #[]) ∧ Drawn0 w w' := by
  unfold rkId
  by_cases c1 : op = 1
  · subst c1
    rw [if_pos rfl]
    go_enter Tryd.func15, Tryd.ntmps15
    go_wp2
    go_ret
    exact ⟨by first | exact rfl | (with_unfolding_all exact rfl), by repeat (first | exact Drawn0.refl _ | apply Drawn0.step)⟩
  have e1 : (op == 1) = false := beq_eq_false_iff_ne.2 c1
  by_cases c2 : op = 2
  · subst c2
    rw [if_neg (by decide), if_pos rfl]
    go_enter Tryd.func15, Tryd.ntmps15
    go_wp2
    go_ret
    exact ⟨by first | exact rfl | (with_unfolding_all exact rfl), by repeat (first | exact Drawn0.refl _ | apply Drawn0.step)⟩
  have e2 : (op == 2) = false := beq_eq_false_iff_ne.2 c2
  by_cases c3 : op = 3
  · subst c3
    rw [if_neg (by decide), if_neg (by decide), if_pos rfl]
    go_enter Tryd.func15, Tryd.ntmps15
    go_wp2
    go_ret
    exact ⟨by first | exact rfl | (with_unfolding_all exact rfl), by repeat (first | exact Drawn0.refl _ | apply Drawn0.step)⟩
  have e3 : (op == 3) = false := beq_eq_false_iff_ne.2 c3
  by_cases c4 : op = 4
  · subst c4
    rw [if_neg (by decide), if_neg (by decide), if_neg (by decide), if_pos rfl]
    go_enter Tryd.func15, Tryd.ntmps15
    go_wp2
    go_ret
    exact ⟨by first | exact rfl | (with_unfolding_all exact rfl), by repeat (first | exact Drawn0.refl _ | apply Drawn0.step)⟩
  have e4 : (op == 4) = false := beq_eq_false_iff_ne.2 c4
  by_cases c5 : op = 5
  · subst c5
    rw [if_neg (by decide), if_neg (by decide), if_neg (by decide), if_neg (by decide), if_pos rfl]
    go_enter Tryd.func15, Tryd.ntmps15
    go_wp2
    go_ret
    exact ⟨by first | exact rfl | (with_unfolding_all exact rfl), by repeat (first | exact Drawn0.refl _ | apply Drawn0.step)⟩
  have e5 : (op == 5) = false := beq_eq_false_iff_ne.2 c5
  by_cases c6 : op = 6
  · subst c6
    rw [if_neg (by decide), if_neg (by decide), if_neg (by decide), if_neg (by decide), if_neg (by decide), if_pos rfl]
    go_enter Tryd.func15, Tryd.ntmps15
    go_wp2
    go_ret
    exact ⟨by first | exact rfl | (with_unfolding_all exact rfl), by repeat (first | exact Drawn0.refl _ | apply Drawn0.step)⟩
  have e6 : (op == 6) = false := beq_eq_false_iff_ne.2 c6
  by_cases c7 : op = 7
  · subst c7
    rw [if_neg (by decide), if_neg (by decide), if_neg (by decide), if_neg (by decide), if_neg (by decide), if_neg (by decide), if_pos rfl]
    go_enter Tryd.func15, Tryd.ntmps15
    go_wp2
    go_ret
    exact ⟨by first | exact rfl | (with_unfolding_all exact rfl), by repeat (first | exact Drawn0.refl _ | apply Drawn0.step)⟩
  have e7 : (op == 7) = false := beq_eq_false_iff_ne.2 c7
  by_cases c8 : op = 8
  · subst c8
    rw [if_neg (by decide), if_neg (by decide), if_neg (by decide), if_neg (by decide), if_neg (by decide), if_neg (by decide), if_neg (by decide), if_pos rfl]
    go_enter Tryd.func15, Tryd.ntmps15
    go_wp2
    go_ret
    exact ⟨by first | exact rfl | (with_unfolding_all exact rfl), by repeat (first | exact Drawn0.refl _ | apply Drawn0.step)⟩
  have e8 : (op == 8) = false := beq_eq_false_iff_ne.2 c8
  by_cases c9 : op = 9
  · subst c9
    rw [if_neg (by decide), if_neg (by decide), if_neg (by decide), if_neg (by decide), if_neg (by decide), if_neg (by decide), if_neg (by decide), if_neg (by decide), if_pos rfl]
    go_enter Tryd.func15, Tryd.ntmps15
    go_wp2
    go_ret
    exact ⟨by first | exact rfl | (with_unfolding_all exact rfl), by repeat (first | exact Drawn0.refl _ | apply Drawn0.step)⟩
  have e9 : (op == 9) = false := beq_eq_false_iff_ne.2 c9
  by_cases c10 : op = 10
  · subst c10
    rw [if_neg (by decide), if_neg (by decide), if_neg (by decide), if_neg (by decide), if_neg (by decide), if_neg (by decide), if_neg (by decide), if_neg (by decide), if_neg (by decide), if_pos rfl]
    go_enter Tryd.func15, Tryd.ntmps15
    go_wp2
    go_ret
    exact ⟨by first | exact rfl | (with_unfolding_all exact rfl), by repeat (first | exact Drawn0.refl _ | apply Drawn0.step)⟩
  have e10 : (op == 10) = false := beq_eq_false_iff_ne.2 c10
  by_cases c11 : op = 11
  · subst c11
    rw [if_neg (by decide), if_neg (by decide), if_neg (by decide), if_neg (by decide), if_neg (by decide), if_neg (by decide), if_neg (by decide), if_neg (by decide), if_neg (by decide), if_neg (by decide), if_pos rfl]
    go_enter Tryd.func15, Tryd.ntmps15
    go_wp2
    go_ret
    exact ⟨by first | exact rfl | (with_unfolding_all exact rfl), by repeat (first | exact Drawn0.refl _ | apply Drawn0.step)⟩
  have e11 : (op == 11) = false := beq_eq_false_iff_ne.2 c11
  by_cases c12 : op = 12
  · subst c12
    rw [if_neg (by decide), if_neg (by decide), if_neg (by decide), if_neg (by decide), if_neg (by decide), if_neg (by decide), if_neg (by decide), if_neg (by decide), if_neg (by decide), if_neg (by decide), if_neg (by decide), if_pos rfl]
    go_enter Tryd.func15, Tryd.ntmps15
    go_wp2
    go_ret
    exact ⟨by first | exact rfl | (with_unfolding_all exact rfl), by repeat (first | exact Drawn0.refl _ | apply Drawn0.step)⟩
  have e12 : (op == 12) = false := beq_eq_false_iff_ne.2 c12
  rw [if_neg c1, if_neg c2, if_neg c3, if_neg c4, if_neg c5, if_neg c6, if_neg c7, if_neg c8, if_neg c9, if_neg c10, if_neg c11, if_neg c12]
  clear c1 c2 c3 c4 c5 c6 c7 c8 c9 c10 c11 c12
  go_enter Tryd.func15, Tryd.ntmps15
  go_wp2
  go_ret
  exact ⟨by first | exact rfl | (with_unfolding_all exact rfl), by repeat (first | exact Drawn0.refl _ | apply Drawn0.step)⟩
theorem idx5 (w : World) (j v : Int) (h : (j = 0 ∧ v = 1) ∨ (j = 1 ∧ v = 6) ∨ (j = 2 ∧ v = 7) ∨ (j = 3 ∧ v = 8) ∨ (j = 4 ∧ v = 12)) : Sem.run Tryd.prog (Instr.index 80 (.agg #[.int .u8 1, .int .u8 6, .int .u8 7, .int .u8 8, .int .u8 12]) (.int .u8 j)) w = .ok (.int .u8 v) w := by
  have hu80 := Tryd.underlying80
  have c5 : Tryd.prog.cellsOf 5 = 1 := by kernel_rfl
  rcases h with ⟨rfl, rfl⟩ | ⟨rfl, rfl⟩ | ⟨rfl, rfl⟩ | ⟨rfl, rfl⟩ | ⟨rfl, rfl⟩
  all_goals unfold Instr.index
  all_goals go_simp
def alikeId (op : Int) : Int := if op = 14 then 1 else if op = 15 then 6 else if op = 16 then 7 else if op = 17 then 8 else 12
set_option maxHeartbeats 8000000 in
set_option maxRecDepth 100000 in
theorem calike_calls (op : Int) (w : World) (h0 : 14 ≤ op) (h1 : op ≤ 18) :
    Calls Tryd.prog 16 #[.int .u8 op] w fun e w' => e = .returned (.int .u8 (alikeId op)) ∧ Below w.heap.size w w' := by
  have HB := Aside0.mk (Below.refl w.heap.size w)
  have i0 := idx5 w 0 1 (by decide)
  have i1 := idx5 w 1 6 (by decide)
  have i2 := idx5 w 2 7 (by decide)
  have i3 := idx5 w 3 8 (by decide)
  have i4 := idx5 w 4 12 (by decide)
  have : op = 14 ∨ op = 15 ∨ op = 16 ∨ op = 17 ∨ op = 18 := by omega
  rcases this with rfl | rfl | rfl | rfl | rfl
  all_goals go_enter Tryd.func16, Tryd.ntmps16
  all_goals go_wp2
  all_goals go_ret
  all_goals exact ⟨by first | exact rfl | (with_unfolding_all exact rfl), by repeat (first | (with_reducible first | exact HB.out | apply below_alloc | apply pw_below_drewN | apply below_drew1) | exact HB.out)⟩
end Go.Proofs.YtiklcpacbclpnaaDoor.P
end
section
set_option linter.unusedVariables false
set_option linter.unusedSimpArgs false
namespace Go.Proofs.YtiklcpacbclpnaaDoor.P
open Go.RowKit Go.Proofs.YtiklcpacbclpnaaDoorW.PrintWords Go.Proofs.YtiklcpacbclpnaaDoorW.PrintLast Go.Proofs.YtiklcpacbclpnaaDoorW.PrintMore
theorem bits_in (o : BinOp) (x y : Int) : 0 ≤ Go.bits o .u32 x y ∧ Go.bits o .u32 x y < 4294967296 := by
  unfold Go.bits
  rw [IntKind.wrap_u32]
  omega
theorem wrap_in (x : Int) : 0 ≤ IntKind.u32.wrap x ∧ IntKind.u32.wrap x < 4294967296 := by rw [IntKind.wrap_u32]; omega
theorem shr_in {x : Int} (h0 : 0 ≤ x) (h1 : x < 4294967296) (y : Int) : 0 ≤ shr .u32 x y ∧ shr .u32 x y < 4294967296 := by
  unfold shr
  have hp : (0 : Int) < 2 ^ min y.toNat IntKind.u32.bits := Int.pow_pos (by decide)
  have := Int.ediv_nonneg h0 (Int.le_of_lt hp)
  have := Int.ediv_le_self (2 ^ min y.toNat IntKind.u32.bits) h0
  omega
theorem rk_ex (op b c : Int) (b0 : 0 ≤ b) (b1 : b < 4294967296) (c0 : 0 ≤ c) (c1 : c < 4294967296) :
    ∃ r : Int, (0 ≤ r ∧ r < 4294967296) ∧ ∀ w, Calls Tryd.prog (rkId op) #[.int .u32 b, .int .u32 c] w fun e w' => e = .returned (.int .u32 r) ∧ Drawn0 w w' := by
  have hb := bits_in .and c 31
  unfold rkId
  by_cases h1 : op = 1
  · rw [if_pos h1]; exact ⟨_, by omega, fun w => cpu_reckon_1.calls b c _ w rfl⟩
  rw [if_neg h1]
  by_cases h2 : op = 2
  · rw [if_pos h2]; exact ⟨_, by omega, fun w => cpu_reckon_2.calls b c _ w rfl⟩
  rw [if_neg h2]
  by_cases h3 : op = 3
  · rw [if_pos h3]; exact ⟨(b * c) % 4294967296, by omega, fun w => cpu_reckon_3.calls b c _ w rfl⟩
  rw [if_neg h3]
  by_cases h4 : op = 4
  · rw [if_pos h4]
    by_cases hc : c = 0
    · exact ⟨4294967295, by omega, fun w => cpu_reckon_4.calls b c _ w (by unfold cpu_reckon_4.f; rw [if_pos hc])⟩
    · exact ⟨(Int.tdiv b c) % 4294967296, by omega, fun w => cpu_reckon_4.calls b c _ w (by unfold cpu_reckon_4.f; rw [if_neg hc])⟩
  rw [if_neg h4]
  by_cases h5 : op = 5
  · rw [if_pos h5]
    by_cases hc : c = 0
    · exact ⟨b, by omega, fun w => cpu_reckon_5.calls b c _ w (by unfold cpu_reckon_5.f; rw [if_pos hc])⟩
    · refine ⟨Int.tmod b c, ?_, fun w => cpu_reckon_5.calls b c _ w (by unfold cpu_reckon_5.f; rw [if_neg hc])⟩
      rw [Int.tmod_eq_emod_of_nonneg b0]
      have e1 := Int.emod_nonneg b hc
      have e2 := Int.emod_lt_of_pos b (show 0 < c by omega)
      omega
  rw [if_neg h5]
  by_cases h6 : op = 6
  · rw [if_pos h6]; exact ⟨_, bits_in .and b c, fun w => cpu_reckon_6.calls b c _ w rfl⟩
  rw [if_neg h6]
  by_cases h7 : op = 7
  · rw [if_pos h7]; exact ⟨_, bits_in .or b c, fun w => cpu_reckon_7.calls b c _ w rfl⟩
  rw [if_neg h7]
  by_cases h8 : op = 8
  · rw [if_pos h8]; exact ⟨_, bits_in .xor b c, fun w => cpu_reckon_8.calls b c _ w rfl⟩
  rw [if_neg h8]
  by_cases h9 : op = 9
  · rw [if_pos h9]; exact ⟨shl .u32 b (Go.bits .and .u32 c 31), by unfold shl; exact wrap_in _, fun w => cpu_reckon_9.calls b c _ w (by unfold cpu_reckon_9.f; rw [if_pos hb.1])⟩
  rw [if_neg h9]
  by_cases h10 : op = 10
  · rw [if_pos h10]; exact ⟨shr .u32 b (Go.bits .and .u32 c 31), shr_in b0 b1 _, fun w => cpu_reckon_10.calls b c _ w (by unfold cpu_reckon_10.f; rw [if_pos hb.1])⟩
  rw [if_neg h10]
  by_cases h11 : op = 11
  · rw [if_pos h11]; exact ⟨_, wrap_in _, fun w => cpu_reckon_11.calls b c _ w (by unfold cpu_reckon_11.f; rw [if_pos hb.1])⟩
  rw [if_neg h11]
  by_cases h12 : op = 12
  · rw [if_pos h12]
    cases hd : decide (wrap32 b < wrap32 c)
    · exact ⟨0, by omega, fun w => cpu_reckon_12.calls b c _ w (by unfold cpu_reckon_12.f; rw [hd]; rfl)⟩
    · exact ⟨1, by omega, fun w => cpu_reckon_12.calls b c _ w (by unfold cpu_reckon_12.f; rw [hd]; rfl)⟩
  rw [if_neg h12]
  cases hd : decide (b < c)
  · exact ⟨0, by omega, fun w => cpu_reckon_13.calls b c _ w (by unfold cpu_reckon_13.f; rw [hd]; rfl)⟩
  · exact ⟨1, by omega, fun w => cpu_reckon_13.calls b c _ w (by unfold cpu_reckon_13.f; rw [hd]; rfl)⟩
noncomputable def rk (op b c : Int) : Int := if op = 1 then (b + c) % 4294967296 else if h : (0 ≤ b ∧ b < 4294967296) ∧ (0 ≤ c ∧ c < 4294967296) then Classical.choose (rk_ex op b c h.1.1 h.1.2 h.2.1 h.2.2) else 0
theorem rk_calls (op b c : Int) (b0 : 0 ≤ b) (b1 : b < 4294967296) (c0 : 0 ≤ c) (c1 : c < 4294967296) :
    (0 ≤ rk op b c ∧ rk op b c < 4294967296) ∧ ∀ w, Calls Tryd.prog (rkId op) #[.int .u32 b, .int .u32 c] w fun e w' => e = .returned (.int .u32 (rk op b c)) ∧ Drawn0 w w' := by
  unfold rk
  by_cases h1 : op = 1
  · subst h1
    rw [if_pos rfl]
    refine ⟨by omega, fun w => ?_⟩
    have e : rkId 1 = 32 := rfl
    rw [e]
    exact cpu_reckon_1.calls b c _ w rfl
  rw [if_neg h1, dif_pos ⟨⟨b0, b1⟩, ⟨c0, c1⟩⟩]
  exact Classical.choose_spec (rk_ex op b c b0 b1 c0 c1)
end Go.Proofs.YtiklcpacbclpnaaDoor.P
end
section
namespace Go.Proofs.YtiklcpacbclpnaaDoor.P
open Go.RowKit Go.Proofs.YtiklcpacbclpnaaDoorW.PrintWords Go.Proofs.YtiklcpacbclpnaaDoorW.PrintLast Go.Proofs.YtiklcpacbclpnaaDoorW.PrintMore
attribute [local go_sem] isSome_setCell_eq max2_int min2_int max_two min_two max_three min_three max_four min_four
set_option linter.unusedVariables false
set_option linter.unusedSimpArgs false
def num_Put.l0 : Nat → Int → List Int → Int → Int → Option (ByteArray)
  | 0, _, _, _, _ => none
  | k + 1, x0, x5, x12, x13 => if x13 < x12 then (if 0 ≤ (wrap64 (8 * x13)) then (if 0 ≤ x13 then (if x13 < (x5.length : Int) then (num_Put.l0 k x0 (x5.set (x13 : Int).toNat ((shr .u64 x0 (wrap64 (8 * x13))) % 256)) x12 (wrap64 (x13 + 1))) else (none)) else (none)) else (none)) else (some (strOfNums x5))
def num_Put.f (k : Nat) (a0 : Int) (a1 : Int) : Option (ByteArray) := if 0 ≤ (mn (mx a1 0) 8) then (if (mn (mx a1 0) 8 : Int).toNat ≤ 281474976710656 then ((some (List.replicate (mn (mx a1 0) 8 : Int).toNat 0 : List Int)).bind fun y132 => (num_Put.l0 k a0 y132 (y132.length : Int) 0)) else (none)) else (none)
theorem num_Put.mono_l : ∀ k, (∀ y0 y1 y2 y3, LeO (num_Put.l0 k y0 y1 y2 y3) (num_Put.l0 (k + 1) y0 y1 y2 y3))
  | 0 => fun _ _ _ _ r h => by simp [num_Put.l0] at h
  | k + 1 => by
    have ih0 := num_Put.mono_l k
    · intro y0 y1 y2 y3
      unfold num_Put.l0
      repeat' first
      | (with_reducible exact ih0 _ _ _ _)
      | (with_reducible exact LeO.refl _)
      | (with_reducible exact LeO.none _)
      | (with_reducible refine LeO.ite ?_ ?_)
      | (with_reducible refine LeO.bind ?_ (fun _ => ?_))
      | exact ih0 _ _ _ _
      | exact LeO.none _
      | refine LeO.ite ?_ ?_
      | refine LeO.bind ?_ (fun _ => ?_)
theorem num_Put.mono : ∀ a0 a1 k, LeO (num_Put.f k a0 a1) (num_Put.f (k + 1) a0 a1) := by
  intro a0 a1 k
  have ih0 := num_Put.mono_l k
  unfold num_Put.f
  repeat' first
      | (with_reducible exact ih0 _ _ _ _)
      | (with_reducible exact LeO.refl _)
      | (with_reducible exact LeO.none _)
      | (with_reducible refine LeO.ite ?_ ?_)
      | (with_reducible refine LeO.bind ?_ (fun _ => ?_))
      | exact ih0 _ _ _ _
      | exact LeO.none _
      | refine LeO.ite ?_ ?_
      | refine LeO.bind ?_ (fun _ => ?_)
set_option maxHeartbeats 8000000 in
set_option maxRecDepth 100000 in
theorem num_Put.calls (k : Nat) (a0 : Int) (a1 : Int) (r : ByteArray) (w : World) (h : num_Put.f k a0 a1 = some r) :
    Calls Tryd.prog 46 #[.int .u64 a0, .int .i64 a1] w fun e w' => e = .returned (.string r) ∧ Below w.heap.size w w' := by
  have HB := Aside0.mk (Below.refl w.heap.size w)
  have H : (if 0 ≤ (mn (mx a1 0) 8) then (if (mn (mx a1 0) 8 : Int).toNat ≤ 281474976710656 then ((some (List.replicate (mn (mx a1 0) 8 : Int).toNat 0 : List Int)).bind fun y132 => (num_Put.l0 k a0 y132 (y132.length : Int) 0)) else (none)) else (none)) = some r := h
  clear h
  obtain ⟨ji3, hji3⟩ : ∃ j_ : Int, (mx a1 0) = j_ := ⟨_, rfl⟩
  replace H : (if 0 ≤ (mn (ji3) 8) then (if (mn (ji3) 8 : Int).toNat ≤ 281474976710656 then ((some (List.replicate (mn (ji3) 8 : Int).toNat 0 : List Int)).bind fun y132 => (num_Put.l0 k a0 y132 (y132.length : Int) 0)) else (none)) else (none)) = some r := by first | (rw [hji3] at H; exact H) | (simp only [hji3] at H ⊢; exact H)
  (try (have hji3l : 0 ≤ ji3 := by (rw [← hji3]; unfold mx; (repeat' split) <;> omega)))
  (try (have hji3m : 0 ≤ ji3 := by omega))
  have hji3_ : (if a1 < 0 then 0 else a1) = ji3 := hji3
  obtain ⟨ji4, hji4⟩ : ∃ j_ : Int, (mn (ji3) 8) = j_ := ⟨_, rfl⟩
  replace H : (if 0 ≤ (ji4) then (if (ji4 : Int).toNat ≤ 281474976710656 then ((some (List.replicate (ji4 : Int).toNat 0 : List Int)).bind fun y132 => (num_Put.l0 k a0 y132 (y132.length : Int) 0)) else (none)) else (none)) = some r := by first | (rw [hji4] at H; exact H) | (simp only [hji4] at H ⊢; exact H)
  have hji4_ : (if 8 < (ji3) then 8 else (ji3)) = ji4 := hji4
  by_cases c5 : 0 ≤ (ji4)
  · rw [if_pos c5] at H
    have c5b0 := eq_true c5
    have c5b1 : decide (0 ≤ (ji4)) = true := decide_eq_true c5
    clear c5
    by_cases c6 : (ji4 : Int).toNat ≤ 281474976710656
    · rw [if_pos c6] at H
      have c6b0 := eq_true c6
      have c6b1 : decide ((ji4 : Int).toNat ≤ 281474976710656) = true := decide_eq_true c6
      clear c6
      obtain ⟨y132, hy132⟩ : ∃ y_ : List Int, y_ = (List.replicate (ji4 : Int).toNat 0) := ⟨_, rfl⟩
      replace H : (num_Put.l0 k a0 y132 (y132.length : Int) 0) = some r := by first | (rw [hy132]; with_reducible exact H) | (have H2_ := (Option.bind_some _ _).symm.trans H; rw [hy132]; with_reducible exact H2_) | (have H2_ := (Option.bind_some _ _).symm.trans H; with_reducible exact H2_) | with_reducible exact H | (rw [hy132]; exact H) | exact H
      have Ny132 := Aside0.mk hy132
      clear hy132
      have H' := Aside0.mk H
      clear H
      go_enter Tryd.func46, Tryd.ntmps46
      go_wp2_with (first | ((with_reducible refine gate_dst (N := 10) rfl ?_); refine Kd.R_make (Kd.int .u8) _ 5 rfl (N := 10) rfl 52 _ _ rfl ji4 rfl rfl Tryd.underlying52 (.int .u8 0) 1 info5 rfl (by decide) (by omega) 0 (ok := fun _ => True) (okp := fun _ => True) rfl (fun _ hk => hk) trivial (of_decide_eq_true (by first | (with_reducible assumption) | assumption)) (Nat.le_trans (Nat.mul_le_mul_right _ (of_decide_eq_true (by first | (with_reducible assumption) | assumption) : ji4.toNat ≤ 281474976710656)) (by omega)) (Below.refl _ _) (Nat.le_refl _) ?_; intro v133 w7 ho8 hb hg_ hnew_; clear hg_ hnew_; (first | rw [← Ny132.out] at ho8 | (simp only [Int.reduceToNat] at ho8; rw [← Ny132.out] at ho8)); have n0_ := Aside0.mk (Kd.R_lower ho8 (below_size (by repeat (first | (with_reducible first | exact HB.out | apply below_alloc | apply pw_below_drewN | apply below_drew1) | exact HB.out)))); have n1_ := Aside0.mk (below_step (by repeat (first | (with_reducible first | exact HB.out | apply below_alloc | apply pw_below_drewN | apply below_drew1) | exact HB.out)) hb); clear HB; have HO134 := n0_; have HB := n1_; clear n0_ n1_; clear hb ho8; obtain ⟨Ao9, co9, eo9⟩ := Kd.R_slice HO134.out; subst eo9))
      go_loopg [13] k (fun kq v13 w' => ∃ (x5_1 : List Int) (x13_1 : Int), v13 = .int .i64 x13_1 ∧ Aside0 (num_Put.l0 kq a0 x5_1 (y132.length : Int) x13_1 = some r) ∧ Aside0 (kq ≤ k) ∧ Aside0 (Kd.R (Kd.int .u8) 5 w' w.heap.size (fun _ => True) (.slice Ao9 y132.length co9) x5_1) ∧ Aside0 (Below w.heap.size w w'))
      case atStart => exact ⟨(y132), (0), (by first | rfl | (simp; done) | (simp [*]; done)), H', ⟨Nat.le_refl _⟩, ⟨by (with_reducible repeat (first | apply Kd.R_alloc | apply Kd.R_drewN | apply Kd.R_drew)); exact HO134.out⟩, ⟨by repeat (first | (with_reducible first | exact HB.out | apply below_alloc | apply pw_below_drewN | apply below_drew1) | exact HB.out)⟩⟩
      case round =>
        clear H'
        try clear p2
        try clear c4
        try clear c5
        try clear c5b0
        try clear c5b1
        try clear c6
        try clear c6b0
        try clear c6b1
        obtain ⟨x5_1, x13_1, rfl, HA, HK1, HO_5, HB⟩ := hrel
        have hl5_1 := (Kd.R_reads' HO_5.out).1
        rw [hl5_1] at HO_5
        (try simp only [hl5_1])
        cases gk with
        | zero => exact absurd HA.out (by simp [num_Put.l0])
        | succ k1 =>
          have H := HA.out
          clear HA
          simp only [num_Put.l0] at H
          by_cases c10 : x13_1 < (y132.length : Int)
          · rw [if_pos c10] at H
            have c10b0 : decide (x13_1 < (y132.length : Int)) = true := decide_eq_true c10
            try (have c10b8_hl5_1 := c10b0; simp only [hl5_1] at c10b8_hl5_1)
            clear c10
            obtain ⟨ji11, hji11⟩ : ∃ j_ : Int, (wrap64 (8 * x13_1)) = j_ := ⟨_, rfl⟩
            replace H : (if 0 ≤ (ji11) then (if 0 ≤ x13_1 then (if x13_1 < (x5_1.length : Int) then (num_Put.l0 k1 a0 (x5_1.set (x13_1 : Int).toNat ((shr .u64 a0 (ji11)) % 256)) (y132.length : Int) (wrap64 (x13_1 + 1))) else (none)) else (none)) else (none)) = some r := by first | (rw [hji11] at H; exact H) | (simp only [hji11] at H ⊢; exact H)
            have hji11w : (IntKind.i64.wrap (8 * x13_1)) = ji11 := (i64_w _).trans hji11
            by_cases c12 : 0 ≤ (ji11)
            · rw [if_pos c12] at H
              have c12b0 := eq_true c12
              have c12b1 : decide (0 ≤ (ji11)) = true := decide_eq_true c12
              clear c12
              obtain ⟨ji13, hji13⟩ : ∃ j_ : Int, (shr .u64 a0 (ji11)) = j_ := ⟨_, rfl⟩
              replace H : (if 0 ≤ x13_1 then (if x13_1 < (x5_1.length : Int) then (num_Put.l0 k1 a0 (x5_1.set (x13_1 : Int).toNat ((ji13) % 256)) (y132.length : Int) (wrap64 (x13_1 + 1))) else (none)) else (none)) = some r := by first | (rw [hji13] at H; exact H) | (simp only [hji13] at H ⊢; exact H)
              have hji13_ : (a0 / 2 ^ min (ji11).toNat 64) = ji13 := hji13
              have hji13z : (ji11) ≤ 64 → (a0 / 2 ^ (ji11).toNat) = ji13 := shr_small hji13
              by_cases c14 : 0 ≤ x13_1
              · rw [if_pos c14] at H
                have c14b0 : decide (0 ≤ x13_1) = true := decide_eq_true c14
                clear c14
                by_cases c15 : x13_1 < (x5_1.length : Int)
                · rw [if_pos c15] at H
                  have c15b0 : decide (x13_1 < (x5_1.length : Int)) = true := decide_eq_true c15
                  try (have c15b8_hl5_1 := c15b0; simp only [hl5_1] at c15b8_hl5_1)
                  clear c15
                  obtain ⟨y135, hy135⟩ : ∃ y_ : List Int, y_ = (x5_1.set (x13_1 : Int).toNat ((ji13) % 256)) := ⟨_, rfl⟩
                  replace H : (num_Put.l0 k1 a0 y135 (y132.length : Int) (wrap64 (x13_1 + 1))) = some r := by first | (rw [hy135]; with_reducible exact H) | (have H2_ := (Option.bind_some _ _).symm.trans H; rw [hy135]; with_reducible exact H2_) | (have H2_ := (Option.bind_some _ _).symm.trans H; with_reducible exact H2_) | with_reducible exact H | (rw [hy135]; exact H) | exact H
                  have Ny135 := Aside0.mk hy135
                  clear hy135
                  have H' := Aside0.mk H
                  clear H
                  have p16 : 0 ≤ (x13_1 : Int) := of_decide_eq_true (by first | (with_reducible assumption) | assumption)
                  have q16 : (x13_1 : Int) < ((x5_1.length : Int) : Int) := of_decide_eq_true (by first | (with_reducible assumption) | assumption)
                  obtain ⟨go16, co16, eo16, gb16, gl16, cl16, HG16⟩ := Kd.R_form HO_5.out (by omega)
                  (first | cases eo16 | (injection eo16 with ea_ en_ ec_; (first | subst ea_ | (injection ea_ with ea_; subst ea_)); subst ec_; clear en_))
                  have GB16 := Aside0.mk gb16
                  have GG16 := Aside0.mk HG16
                  clear gb16 gl16 HG16
                  obtain ⟨hx16_0, hf16_0⟩ := Kd.R_celln 0 HO_5.out (x13_1 : Int) p16 q16
                  replace p16 := eq_true p16
                  replace q16 := eq_true q16
                  have HP17 := Kd.R_putg HO_5.out (x13_1 : Int) ((ji13) % 256)
                  go_wp2_with (first | ((with_reducible refine gate_store (t := 5) (p := 23) rfl ?_); refine store_event (t := 5) (p := 23) (v := ?vo_w18) (w1 := (wr.setCell ⟨go16, (x13_1 : Int).toNat, none⟩ (.int .u8 ((ji13) % 256)))) ?hg ?ho ?hn ?hr ?_; (case ho => rfl); (case hg => rfl); (case hn => rfl); (case hr => first | (go_simp; done) | (go_simp; rfl)); intro w18 hw; have hg : wr.grownBy w18 (some go16) := (by rw [hw]; exact HP17.2); have hp_ : Kd.R (Kd.int .u8) 5 w18 w.heap.size (fun _ => True) (.slice (some ⟨go16, 0, none⟩) x5_1.length co9) y135 := (by rw [hw, Ny135.out]; exact HP17.1); clear HP17; have n0_ := Aside0.mk (hp_); have n1_ := Aside0.mk ((by rw [hw]; exact below_set (HB.out) GB16.out : Below w.heap.size w w18)); clear HO_5; clear HB; have HO_5 := n0_; have HB := n1_; clear n0_ n1_; clear hg hw hp_))
                  (try simp only [← hl5_1])
                  go_roundg k1
                  case measure => have := HK1.out; omega
                  case rel => exact ⟨(y135), (wrap64 (x13_1 + 1)), (by first | rfl | (simp; done) | (simp [*]; done)), H', ⟨by have := HK1.out; omega⟩, ⟨by (try simp only [hl5_1]); (with_reducible repeat (first | apply Kd.R_alloc | apply Kd.R_drewN | apply Kd.R_drew)); exact HO_5.out⟩, ⟨by repeat (first | (with_reducible first | exact HB.out | apply below_alloc | apply pw_below_drewN | apply below_drew1) | exact HB.out)⟩⟩
                · rw [if_neg c15] at H
                  exact absurd H (by simp)
              · rw [if_neg c14] at H
                exact absurd H (by simp)
            · rw [if_neg c12] at H
              exact absurd H (by simp)
          · rw [if_neg c10] at H
            have c10b0 : decide (x13_1 < (y132.length : Int)) = false := decide_eq_false c10
            try (have c10b8_hl5_1 := c10b0; simp only [hl5_1] at c10b8_hl5_1)
            clear c10
            obtain rfl := Option.some.inj H
            have hcv19 := own_string (P := Tryd.prog) Tryd.underlying52 Tryd.underlying5 Tryd.underlying9 (Kd.own_of_R HO_5.out)
            go_wp2
            go_ret
            exact ⟨by first | rfl | (simp [errW_none, errW_some] <;> rfl) | (simp only [← hji3, ← hji4]; first | rfl | (simp [errW_none, errW_some] <;> rfl)) | (simp [*, errW_none, errW_some] <;> rfl), by repeat (first | (with_reducible first | exact HB.out | apply below_alloc | apply pw_below_drewN | apply below_drew1) | exact HB.out)⟩
    · rw [if_neg c6] at H
      exact absurd H (by simp)
  · rw [if_neg c5] at H
    exact absurd H (by simp)
def cpu_jumps.f (a0 : Int) (a1 : Int) (a2 : Int) : Option (Bool) := if a0 = 25 then (some (a1 == a2)) else (if a0 = 26 then (some (a1 != a2)) else (if a0 = 27 then (some (decide ((wrap32 (a1)) < (wrap32 (a2))))) else (some (decide (a1 < a2)))))
set_option maxHeartbeats 8000000 in
set_option maxRecDepth 100000 in
theorem cpu_jumps.calls (a0 : Int) (a1 : Int) (a2 : Int) (r : Bool) (w : World) (h : cpu_jumps.f a0 a1 a2 = some r) :
    Calls Tryd.prog 19 #[.int .u8 a0, .int .u32 a1, .int .u32 a2] w fun e w' => e = .returned (.bool r) ∧ Drawn0 w w' := by
  have H : (if a0 = 25 then (some (a1 == a2)) else (if a0 = 26 then (some (a1 != a2)) else (if a0 = 27 then (some (decide ((wrap32 (a1)) < (wrap32 (a2))))) else (some (decide (a1 < a2)))))) = some r := h
  clear h
  by_cases c4 : a0 = 25
  · rw [if_pos c4] at H
    have c4b0 : (a0 == 25) = true := beq_iff_eq.mpr c4
    have c4b1 : (a0 != 25) = false := bne_eq_false_iff_eq.mpr c4
    clear c4
    obtain rfl := Option.some.inj H
    go_enter Tryd.func19, Tryd.ntmps19
    go_wp2
    go_ret
    exact ⟨by first | rfl | (simp; done) | (simp [*]; done), by repeat (first | exact Drawn0.refl _ | apply Drawn0.step)⟩
  · rw [if_neg c4] at H
    have c4b0 : (a0 == 25) = false := beq_eq_false_iff_ne.mpr c4
    have c4b1 : (a0 != 25) = true := bne_iff_ne.mpr c4
    by_cases c5 : a0 = 26
    · rw [if_pos c5] at H
      have c5b0 : (a0 == 26) = true := beq_iff_eq.mpr c5
      have c5b1 : (a0 != 26) = false := bne_eq_false_iff_eq.mpr c5
      clear c5
      obtain rfl := Option.some.inj H
      go_enter Tryd.func19, Tryd.ntmps19
      go_wp2
      go_ret
      exact ⟨by first | rfl | (simp; done) | (simp [*]; done), by repeat (first | exact Drawn0.refl _ | apply Drawn0.step)⟩
    · rw [if_neg c5] at H
      have c5b0 : (a0 == 26) = false := beq_eq_false_iff_ne.mpr c5
      have c5b1 : (a0 != 26) = true := bne_iff_ne.mpr c5
      by_cases c6 : a0 = 27
      · rw [if_pos c6] at H
        have c6b0 : (a0 == 27) = true := beq_iff_eq.mpr c6
        have c6b1 : (a0 != 27) = false := bne_eq_false_iff_eq.mpr c6
        clear c6
        obtain rfl := Option.some.inj H
        go_enter Tryd.func19, Tryd.ntmps19
        go_wp2
        go_ret
        exact ⟨by first | rfl | (simp; done) | (simp [*]; done), by repeat (first | exact Drawn0.refl _ | apply Drawn0.step)⟩
      · rw [if_neg c6] at H
        have c6b0 : (a0 == 27) = false := beq_eq_false_iff_ne.mpr c6
        have c6b1 : (a0 != 27) = true := bne_iff_ne.mpr c6
        obtain rfl := Option.some.inj H
        go_enter Tryd.func19, Tryd.ntmps19
        go_wp2
        go_ret
        exact ⟨by first | rfl | (simp; done) | (simp [*]; done), by repeat (first | exact Drawn0.refl _ | apply Drawn0.step)⟩
def hibernacletop_page.l0 : Nat → Int → List Int → Int → Int → Option (ByteArray)
  | 0, _, _, _, _ => none
  | k + 1, x0, x3, x7, x8 => if x8 < x7 then (if 0 ≤ x8 then (if x8 < (x3.length : Int) then (hibernacletop_page.l0 k x0 (x3.set (x8 : Int).toNat x0) x7 (wrap64 (x8 + 1))) else (none)) else (none)) else (some (strOfNums x3))
def hibernacletop_page.f (k : Nat) (a0 : Int) : Option (ByteArray) := if 128 ≤ 281474976710656 then ((some (List.replicate 128 0 : List Int)).bind fun y136 => (hibernacletop_page.l0 k a0 y136 (y136.length : Int) 0)) else (none)
theorem hibernacletop_page.mono_l : ∀ k, (∀ y0 y1 y2 y3, LeO (hibernacletop_page.l0 k y0 y1 y2 y3) (hibernacletop_page.l0 (k + 1) y0 y1 y2 y3))
  | 0 => fun _ _ _ _ r h => by simp [hibernacletop_page.l0] at h
  | k + 1 => by
    have ih0 := hibernacletop_page.mono_l k
    · intro y0 y1 y2 y3
      unfold hibernacletop_page.l0
      repeat' first
      | (with_reducible exact ih0 _ _ _ _)
      | (with_reducible exact LeO.refl _)
      | (with_reducible exact LeO.none _)
      | (with_reducible refine LeO.ite ?_ ?_)
      | (with_reducible refine LeO.bind ?_ (fun _ => ?_))
      | exact ih0 _ _ _ _
      | exact LeO.none _
      | refine LeO.ite ?_ ?_
      | refine LeO.bind ?_ (fun _ => ?_)
theorem hibernacletop_page.mono : ∀ a0 k, LeO (hibernacletop_page.f k a0) (hibernacletop_page.f (k + 1) a0) := by
  intro a0 k
  have ih0 := hibernacletop_page.mono_l k
  unfold hibernacletop_page.f
  repeat' first
      | (with_reducible exact ih0 _ _ _ _)
      | (with_reducible exact LeO.refl _)
      | (with_reducible exact LeO.none _)
      | (with_reducible refine LeO.ite ?_ ?_)
      | (with_reducible refine LeO.bind ?_ (fun _ => ?_))
      | exact ih0 _ _ _ _
      | exact LeO.none _
      | refine LeO.ite ?_ ?_
      | refine LeO.bind ?_ (fun _ => ?_)
set_option maxHeartbeats 8000000 in
set_option maxRecDepth 100000 in
theorem hibernacletop_page.calls (k : Nat) (a0 : Int) (r : ByteArray) (w : World) (h : hibernacletop_page.f k a0 = some r) :
    Calls Tryd.prog 9 #[.int .u8 a0] w fun e w' => e = .returned (.string r) ∧ Below w.heap.size w w' := by
  have HB := Aside0.mk (Below.refl w.heap.size w)
  have H : (if 128 ≤ 281474976710656 then ((some (List.replicate 128 0 : List Int)).bind fun y136 => (hibernacletop_page.l0 k a0 y136 (y136.length : Int) 0)) else (none)) = some r := h
  clear h
  by_cases c2 : 128 ≤ 281474976710656
  · rw [if_pos c2] at H
    have c2b0 := eq_true c2
    have c2b1 : decide (128 ≤ 281474976710656) = true := decide_eq_true c2
    clear c2
    obtain ⟨y136, hy136⟩ : ∃ y_ : List Int, y_ = (List.replicate 128 0) := ⟨_, rfl⟩
    replace H : (hibernacletop_page.l0 k a0 y136 (y136.length : Int) 0) = some r := by first | (rw [hy136]; with_reducible exact H) | (have H2_ := (Option.bind_some _ _).symm.trans H; rw [hy136]; with_reducible exact H2_) | (have H2_ := (Option.bind_some _ _).symm.trans H; with_reducible exact H2_) | with_reducible exact H | (rw [hy136]; exact H) | exact H
    have Ny136 := Aside0.mk hy136
    clear hy136
    have H' := Aside0.mk H
    clear H
    go_enter Tryd.func9, Tryd.ntmps9
    go_wp2_with (first | ((with_reducible refine gate_dst (N := 5) rfl ?_); refine Kd.R_make (Kd.int .u8) _ 5 rfl (N := 5) rfl 52 _ _ rfl 128 rfl rfl Tryd.underlying52 (.int .u8 0) 1 info5 rfl (by decide) (by omega) 0 (ok := fun _ => True) (okp := fun _ => True) rfl (fun _ hk => hk) trivial (by omega) (by omega) (Below.refl _ _) (Nat.le_refl _) ?_; intro v137 w3 ho4 hb hg_ hnew_; clear hg_ hnew_; (first | rw [← Ny136.out] at ho4 | (simp only [Int.reduceToNat] at ho4; rw [← Ny136.out] at ho4)); have n0_ := Aside0.mk (Kd.R_lower ho4 (below_size (by repeat (first | (with_reducible first | exact HB.out | apply below_alloc | apply pw_below_drewN | apply below_drew1) | exact HB.out)))); have n1_ := Aside0.mk (below_step (by repeat (first | (with_reducible first | exact HB.out | apply below_alloc | apply pw_below_drewN | apply below_drew1) | exact HB.out)) hb); clear HB; have HO138 := n0_; have HB := n1_; clear n0_ n1_; clear hb ho4; obtain ⟨Ao5, co5, eo5⟩ := Kd.R_slice HO138.out; subst eo5))
    go_loopg [8] k (fun kq v8 w' => ∃ (x3_1 : List Int) (x8_1 : Int), v8 = .int .i64 x8_1 ∧ Aside0 (hibernacletop_page.l0 kq a0 x3_1 (y136.length : Int) x8_1 = some r) ∧ Aside0 (kq ≤ k) ∧ Aside0 (Kd.R (Kd.int .u8) 5 w' w.heap.size (fun _ => True) (.slice Ao5 y136.length co5) x3_1) ∧ Aside0 (Below w.heap.size w w'))
    case atStart => exact ⟨(y136), (0), (by first | rfl | (simp; done) | (simp [*]; done)), H', ⟨Nat.le_refl _⟩, ⟨by (with_reducible repeat (first | apply Kd.R_alloc | apply Kd.R_drewN | apply Kd.R_drew)); exact HO138.out⟩, ⟨by repeat (first | (with_reducible first | exact HB.out | apply below_alloc | apply pw_below_drewN | apply below_drew1) | exact HB.out)⟩⟩
    case round =>
      clear H'
      try clear c2
      try clear c2b0
      try clear c2b1
      try clear p2
      obtain ⟨x3_1, x8_1, rfl, HA, HK1, HO_3, HB⟩ := hrel
      have hl3_1 := (Kd.R_reads' HO_3.out).1
      rw [hl3_1] at HO_3
      (try simp only [hl3_1])
      cases gk with
      | zero => exact absurd HA.out (by simp [hibernacletop_page.l0])
      | succ k1 =>
        have H := HA.out
        clear HA
        simp only [hibernacletop_page.l0] at H
        by_cases c6 : x8_1 < (y136.length : Int)
        · rw [if_pos c6] at H
          have c6b0 : decide (x8_1 < (y136.length : Int)) = true := decide_eq_true c6
          try (have c6b8_hl3_1 := c6b0; simp only [hl3_1] at c6b8_hl3_1)
          clear c6
          by_cases c7 : 0 ≤ x8_1
          · rw [if_pos c7] at H
            have c7b0 : decide (0 ≤ x8_1) = true := decide_eq_true c7
            clear c7
            by_cases c8 : x8_1 < (x3_1.length : Int)
            · rw [if_pos c8] at H
              have c8b0 : decide (x8_1 < (x3_1.length : Int)) = true := decide_eq_true c8
              try (have c8b8_hl3_1 := c8b0; simp only [hl3_1] at c8b8_hl3_1)
              clear c8
              obtain ⟨y139, hy139⟩ : ∃ y_ : List Int, y_ = (x3_1.set (x8_1 : Int).toNat a0) := ⟨_, rfl⟩
              replace H : (hibernacletop_page.l0 k1 a0 y139 (y136.length : Int) (wrap64 (x8_1 + 1))) = some r := by first | (rw [hy139]; with_reducible exact H) | (have H2_ := (Option.bind_some _ _).symm.trans H; rw [hy139]; with_reducible exact H2_) | (have H2_ := (Option.bind_some _ _).symm.trans H; with_reducible exact H2_) | with_reducible exact H | (rw [hy139]; exact H) | exact H
              have Ny139 := Aside0.mk hy139
              clear hy139
              have H' := Aside0.mk H
              clear H
              have p9 : 0 ≤ (x8_1 : Int) := of_decide_eq_true (by first | (with_reducible assumption) | assumption)
              have q9 : (x8_1 : Int) < ((x3_1.length : Int) : Int) := of_decide_eq_true (by first | (with_reducible assumption) | assumption)
              obtain ⟨go9, co9, eo9, gb9, gl9, cl9, HG9⟩ := Kd.R_form HO_3.out (by omega)
              (first | cases eo9 | (injection eo9 with ea_ en_ ec_; (first | subst ea_ | (injection ea_ with ea_; subst ea_)); subst ec_; clear en_))
              have GB9 := Aside0.mk gb9
              have GG9 := Aside0.mk HG9
              clear gb9 gl9 HG9
              obtain ⟨hx9_0, hf9_0⟩ := Kd.R_celln 0 HO_3.out (x8_1 : Int) p9 q9
              replace p9 := eq_true p9
              replace q9 := eq_true q9
              have HP10 := Kd.R_putg HO_3.out (x8_1 : Int) a0
              go_wp2_with (first | ((with_reducible refine gate_store (t := 5) (p := 14) rfl ?_); refine store_event (t := 5) (p := 14) (v := ?vo_w11) (w1 := (wr.setCell ⟨go9, (x8_1 : Int).toNat, none⟩ (.int .u8 a0))) ?hg ?ho ?hn ?hr ?_; (case ho => rfl); (case hg => rfl); (case hn => rfl); (case hr => first | (go_simp; done) | (go_simp; rfl)); intro w11 hw; have hg : wr.grownBy w11 (some go9) := (by rw [hw]; exact HP10.2); have hp_ : Kd.R (Kd.int .u8) 5 w11 w.heap.size (fun _ => True) (.slice (some ⟨go9, 0, none⟩) x3_1.length co5) y139 := (by rw [hw, Ny139.out]; exact HP10.1); clear HP10; have n0_ := Aside0.mk (hp_); have n1_ := Aside0.mk ((by rw [hw]; exact below_set (HB.out) GB9.out : Below w.heap.size w w11)); clear HO_3; clear HB; have HO_3 := n0_; have HB := n1_; clear n0_ n1_; clear hg hw hp_))
              (try simp only [← hl3_1])
              go_roundg k1
              case measure => have := HK1.out; omega
              case rel => exact ⟨(y139), (wrap64 (x8_1 + 1)), (by first | rfl | (simp; done) | (simp [*]; done)), H', ⟨by have := HK1.out; omega⟩, ⟨by (try simp only [hl3_1]); (with_reducible repeat (first | apply Kd.R_alloc | apply Kd.R_drewN | apply Kd.R_drew)); exact HO_3.out⟩, ⟨by repeat (first | (with_reducible first | exact HB.out | apply below_alloc | apply pw_below_drewN | apply below_drew1) | exact HB.out)⟩⟩
            · rw [if_neg c8] at H
              exact absurd H (by simp)
          · rw [if_neg c7] at H
            exact absurd H (by simp)
        · rw [if_neg c6] at H
          have c6b0 : decide (x8_1 < (y136.length : Int)) = false := decide_eq_false c6
          try (have c6b8_hl3_1 := c6b0; simp only [hl3_1] at c6b8_hl3_1)
          clear c6
          obtain rfl := Option.some.inj H
          have hcv12 := own_string (P := Tryd.prog) Tryd.underlying52 Tryd.underlying5 Tryd.underlying9 (Kd.own_of_R HO_3.out)
          go_wp2
          go_ret
          exact ⟨by first | rfl | (simp [errW_none, errW_some] <;> rfl) | (simp [*, errW_none, errW_some] <;> rfl), by repeat (first | (with_reducible first | exact HB.out | apply below_alloc | apply pw_below_drewN | apply below_drew1) | exact HB.out)⟩
  · rw [if_neg c2] at H
    exact absurd H (by simp)
def isa_Op.l0 : Nat → ByteArray → List ByteArray → Int → Int → Option (Int × Bool)
  | 0, _, _, _, _ => none
  | k + 1, x0, x6, x7, x8 => if x8 < x7 then (if 0 ≤ x8 then (if x8 < (x6.length : Int) then (if (rdOf ByteArray.empty x6 x8).toList = x0.toList then (some ((wrap64 (x8 + 1)) % 256, true)) else (isa_Op.l0 k x0 x6 x7 (wrap64 (x8 + 1)))) else (none)) else (none)) else (some (0, false))
def isa_Op.f (k : Nat) (a0 : ByteArray) : Option (Int × Bool) := (strings_Split.f (⟨#[97, 100, 100, 32, 115, 117, 98, 32, 109, 117, 108, 32, 100, 105, 118, 32, 114, 101, 109, 32, 97, 110, 100, 32, 111, 114, 32, 120, 111, 114, 32, 115, 104, 108, 32, 115, 104, 114, 32, 115, 97, 114, 32, 115, 108, 116, 32, 115, 108, 116, 117, 32, 97, 100, 100, 105, 32, 97, 110, 100, 105, 32, 111, 114, 105, 32, 120, 111, 114, 105, 32, 115, 108, 116, 105, 32, 108, 117, 105, 32, 108, 119, 32, 108, 98, 32, 108, 98, 117, 32, 115, 119, 32, 115, 98, 32, 98, 101, 113, 32, 98, 110, 101, 32, 98, 108, 116, 32, 98, 108, 116, 117, 32, 106, 97, 108, 32, 106, 97, 108, 114, 32, 115, 121, 115]⟩ : ByteArray) (⟨#[32]⟩ : ByteArray)).bind fun t140 => (isa_Op.l0 k a0 t140 (t140.length : Int) 0)
theorem isa_Op.mono_l : ∀ k, (∀ y0 y1 y2 y3, LeO (isa_Op.l0 k y0 y1 y2 y3) (isa_Op.l0 (k + 1) y0 y1 y2 y3))
  | 0 => fun _ _ _ _ r h => by simp [isa_Op.l0] at h
  | k + 1 => by
    have ih0 := isa_Op.mono_l k
    · intro y0 y1 y2 y3
      unfold isa_Op.l0
      repeat' first
      | (with_reducible exact ih0 _ _ _ _)
      | (with_reducible exact LeO.refl _)
      | (with_reducible exact LeO.none _)
      | (with_reducible refine LeO.ite ?_ ?_)
      | (with_reducible refine LeO.bind ?_ (fun _ => ?_))
      | exact ih0 _ _ _ _
      | exact LeO.none _
      | refine LeO.ite ?_ ?_
      | refine LeO.bind ?_ (fun _ => ?_)
theorem isa_Op.mono : ∀ a0 k, LeO (isa_Op.f k a0) (isa_Op.f (k + 1) a0) := by
  intro a0 k
  have ih0 := isa_Op.mono_l k
  unfold isa_Op.f
  repeat' first
      | (with_reducible exact ih0 _ _ _ _)
      | (with_reducible exact LeO.refl _)
      | (with_reducible exact LeO.none _)
      | (with_reducible refine LeO.ite ?_ ?_)
      | (with_reducible refine LeO.bind ?_ (fun _ => ?_))
      | exact ih0 _ _ _ _
      | exact LeO.none _
      | refine LeO.ite ?_ ?_
      | refine LeO.bind ?_ (fun _ => ?_)
set_option maxHeartbeats 8000000 in
set_option maxRecDepth 100000 in
theorem isa_Op.calls (k : Nat) (a0 : ByteArray) (r1 : Int) (r2 : Bool) (w : World) (hL : Aside0 (Laid w)) (h : isa_Op.f k a0 = some (r1, r2)) :
    Calls Tryd.prog 10 #[.string a0] w fun e w' => e = .returned (.tuple #[.int .u8 r1, .bool r2]) ∧ Below w.heap.size w w' := by
  have HB := Aside0.mk (Below.refl w.heap.size w)
  have H : ((strings_Split.f (⟨#[97, 100, 100, 32, 115, 117, 98, 32, 109, 117, 108, 32, 100, 105, 118, 32, 114, 101, 109, 32, 97, 110, 100, 32, 111, 114, 32, 120, 111, 114, 32, 115, 104, 108, 32, 115, 104, 114, 32, 115, 97, 114, 32, 115, 108, 116, 32, 115, 108, 116, 117, 32, 97, 100, 100, 105, 32, 97, 110, 100, 105, 32, 111, 114, 105, 32, 120, 111, 114, 105, 32, 115, 108, 116, 105, 32, 108, 117, 105, 32, 108, 119, 32, 108, 98, 32, 108, 98, 117, 32, 115, 119, 32, 115, 98, 32, 98, 101, 113, 32, 98, 110, 101, 32, 98, 108, 116, 32, 98, 108, 116, 117, 32, 106, 97, 108, 32, 106, 97, 108, 114, 32, 115, 121, 115]⟩ : ByteArray) (⟨#[32]⟩ : ByteArray)).bind fun t140 => (isa_Op.l0 k a0 t140 (t140.length : Int) 0)) = some (r1, r2) := h
  clear h
  replace H := Option.bind_eq_some_iff.mp H
  obtain ⟨t140, A20, H⟩ := H
  replace H : (isa_Op.l0 k a0 t140 (t140.length : Int) 0) = some (r1, r2) := H
  have A2 := Aside0.mk A20
  clear A20
  have H' := Aside0.mk H
  clear H
  go_enter Tryd.func10, Tryd.ntmps10
  go_wp2_with (first | ((with_reducible refine gate_callee (f := 20) rfl ?_); refine goesL_ (some 6) rfl rfl Tryd.func20 (by kernel_rfl) rfl #[.string (⟨#[97, 100, 100, 32, 115, 117, 98, 32, 109, 117, 108, 32, 100, 105, 118, 32, 114, 101, 109, 32, 97, 110, 100, 32, 111, 114, 32, 120, 111, 114, 32, 115, 104, 108, 32, 115, 104, 114, 32, 115, 97, 114, 32, 115, 108, 116, 32, 115, 108, 116, 117, 32, 97, 100, 100, 105, 32, 97, 110, 100, 105, 32, 111, 114, 105, 32, 120, 111, 114, 105, 32, 115, 108, 116, 105, 32, 108, 117, 105, 32, 108, 119, 32, 108, 98, 32, 108, 98, 117, 32, 115, 119, 32, 115, 98, 32, 98, 101, 113, 32, 98, 110, 101, 32, 98, 108, 116, 32, 98, 108, 116, 117, 32, 106, 97, 108, 32, 106, 97, 108, 114, 32, 115, 121, 115]⟩ : ByteArray), .string (⟨#[32]⟩ : ByteArray)] rfl (by (try simp only [List.map_toArray, List.map_cons, List.map_nil]); first | done | rfl | (simp only [List.length_drop, List.length_take]; rfl)) ?_; (with_reducible refine (strings_Split.calls (⟨#[97, 100, 100, 32, 115, 117, 98, 32, 109, 117, 108, 32, 100, 105, 118, 32, 114, 101, 109, 32, 97, 110, 100, 32, 111, 114, 32, 120, 111, 114, 32, 115, 104, 108, 32, 115, 104, 114, 32, 115, 97, 114, 32, 115, 108, 116, 32, 115, 108, 116, 117, 32, 97, 100, 100, 105, 32, 97, 110, 100, 105, 32, 111, 114, 105, 32, 120, 111, 114, 105, 32, 115, 108, 116, 105, 32, 108, 117, 105, 32, 108, 119, 32, 108, 98, 32, 108, 98, 117, 32, 115, 119, 32, 115, 98, 32, 98, 101, 113, 32, 98, 110, 101, 32, 98, 108, 116, 32, 98, 108, 116, 117, 32, 106, 97, 108, 32, 106, 97, 108, 114, 32, 115, 121, 115]⟩ : ByteArray) (⟨#[32]⟩ : ByteArray) t140 _ (hL.laid (by repeat (first | (with_reducible first | exact HB.out | apply below_alloc | apply pw_below_drewN | apply below_drew1) | exact HB.out))) A2.out).mono ?_); rintro e w3 ⟨v141, rfl, ho0, hb⟩; refine ⟨_, rfl, ?_⟩; have n0_ := Aside0.mk (Kd.R_lower ho0 (below_size (by repeat (first | (with_reducible first | exact HB.out | apply below_alloc | apply pw_below_drewN | apply below_drew1) | exact HB.out)))); have n1_ := Aside0.mk (below_step (by repeat (first | (with_reducible first | exact HB.out | apply below_alloc | apply pw_below_drewN | apply below_drew1) | exact HB.out)) hb); clear HB; have HO142 := n0_; have HB := n1_; clear n0_ n1_; (try clear hb); (try clear hb2); (try clear hk); (try clear hi); (try clear ho0); obtain ⟨Ao4, co4, eo4⟩ := Kd.R_slice HO142.out; subst eo4))
  go_loopg [8] k (fun kq v8 w' => ∃ (x8_1 : Int), v8 = .int .i64 x8_1 ∧ Aside0 (isa_Op.l0 kq a0 t140 (t140.length : Int) x8_1 = some (r1, r2)) ∧ Aside0 (kq ≤ k) ∧ Aside0 (Kd.R Kd.string 9 w' w.heap.size (fun _ => True) (.slice Ao4 t140.length co4) t140) ∧ Aside0 (Below w.heap.size w w'))
  case atStart => exact ⟨(0), (by first | rfl | (simp; done) | (simp [*]; done)), H', ⟨Nat.le_refl _⟩, ⟨by (with_reducible repeat (first | apply Kd.R_alloc | apply Kd.R_drewN | apply Kd.R_drew)); exact HO142.out⟩, ⟨by repeat (first | (with_reducible first | exact HB.out | apply below_alloc | apply pw_below_drewN | apply below_drew1) | exact HB.out)⟩⟩
  case round =>
    clear H'
    try clear c1
    try clear c2
    try clear p2
    obtain ⟨x8_1, rfl, HA, HK1, HO_6, HB⟩ := hrel
    cases gk with
    | zero => exact absurd HA.out (by simp [isa_Op.l0])
    | succ k1 =>
      have H := HA.out
      clear HA
      simp only [isa_Op.l0] at H
      by_cases c5 : x8_1 < (t140.length : Int)
      · rw [if_pos c5] at H
        have c5b0 : decide (x8_1 < (t140.length : Int)) = true := decide_eq_true c5
        clear c5
        by_cases c6 : 0 ≤ x8_1
        · rw [if_pos c6] at H
          have c6b0 : decide (0 ≤ x8_1) = true := decide_eq_true c6
          clear c6
          by_cases c7 : x8_1 < (t140.length : Int)
          · rw [if_pos c7] at H
            have c7b0 : decide (x8_1 < (t140.length : Int)) = true := decide_eq_true c7
            clear c7
            by_cases c8 : (rdOf ByteArray.empty t140 x8_1).toList = a0.toList
            · rw [if_pos c8] at H
              have c8b0 : ((rdOf ByteArray.empty t140 x8_1).toList == a0.toList) = true := beq_iff_eq.mpr c8
              have c8b1 : ((rdOf ByteArray.empty t140 x8_1).toList != a0.toList) = false := bne_eq_false_iff_eq.mpr c8
              clear c8
              simp only [Option.some.injEq, Prod.mk.injEq] at H
              obtain ⟨rfl, rfl⟩ := H
              have p143 : 0 ≤ (x8_1 : Int) := of_decide_eq_true (by first | (with_reducible assumption) | assumption)
              have q143 : x8_1 < (t140.length : Int) := of_decide_eq_true (by first | (with_reducible assumption) | assumption)
              obtain ⟨ad143, e143, hx143_0⟩ := Kd.at_string (Kd.R_reads' HO_6.out).2.2 x8_1 p143 q143
              cases e143
              replace p143 := eq_true p143
              replace q143 := eq_true q143
              go_wp2
              go_ret2
              exact ⟨by first | rfl | (simp [errW_none, errW_some] <;> rfl) | (simp [*, errW_none, errW_some] <;> rfl), by repeat (first | (with_reducible first | exact HB.out | apply below_alloc | apply pw_below_drewN | apply below_drew1) | exact HB.out)⟩
            · rw [if_neg c8] at H
              have c8b0 : ((rdOf ByteArray.empty t140 x8_1).toList == a0.toList) = false := beq_eq_false_iff_ne.mpr c8
              have c8b1 : ((rdOf ByteArray.empty t140 x8_1).toList != a0.toList) = true := bne_iff_ne.mpr c8
              have H' := Aside0.mk H
              clear H
              have p143 : 0 ≤ (x8_1 : Int) := of_decide_eq_true (by first | (with_reducible assumption) | assumption)
              have q143 : x8_1 < (t140.length : Int) := of_decide_eq_true (by first | (with_reducible assumption) | assumption)
              obtain ⟨ad143, e143, hx143_0⟩ := Kd.at_string (Kd.R_reads' HO_6.out).2.2 x8_1 p143 q143
              cases e143
              replace p143 := eq_true p143
              replace q143 := eq_true q143
              go_wp2
              go_roundg k1
              case measure => have := HK1.out; omega
              case rel => exact ⟨(wrap64 (x8_1 + 1)), (by first | rfl | (simp; done) | (simp [*]; done)), H', ⟨by have := HK1.out; omega⟩, ⟨by (with_reducible repeat (first | apply Kd.R_alloc | apply Kd.R_drewN | apply Kd.R_drew)); exact HO_6.out⟩, ⟨by repeat (first | (with_reducible first | exact HB.out | apply below_alloc | apply pw_below_drewN | apply below_drew1) | exact HB.out)⟩⟩
          · rw [if_neg c7] at H
            exact absurd H (by simp)
        · rw [if_neg c6] at H
          exact absurd H (by simp)
      · rw [if_neg c5] at H
        have c5b0 : decide (x8_1 < (t140.length : Int)) = false := decide_eq_false c5
        clear c5
        simp only [Option.some.injEq, Prod.mk.injEq] at H
        obtain ⟨rfl, rfl⟩ := H
        go_wp2
        go_ret2
        exact ⟨by first | rfl | (simp [errW_none, errW_some] <;> rfl) | (simp [*, errW_none, errW_some] <;> rfl), by repeat (first | (with_reducible first | exact HB.out | apply below_alloc | apply pw_below_drewN | apply below_drew1) | exact HB.out)⟩
def hibernacletop_alike.l0 : Nat → List ByteArray → List ByteArray → Int → Int → Option (Bool)
  | 0, _, _, _, _ => none
  | k + 1, x0, x1, x12, x13 => if x13 < x12 then (if 0 ≤ x13 then (if x13 < (x0.length : Int) then (if x13 < (x1.length : Int) then (if (rdOf ByteArray.empty x0 x13).toList = (rdOf ByteArray.empty x1 x13).toList then (hibernacletop_alike.l0 k x0 x1 x12 (wrap64 (x13 + 1))) else (some false)) else (none)) else (none)) else (none)) else (some true)
def hibernacletop_alike.f (k : Nat) (l0 : List ByteArray) (l1 : List ByteArray) : Option (Bool) := if (l0.length : Int) = (l1.length : Int) then (hibernacletop_alike.l0 k l0 l1 (l0.length : Int) 0) else (some false)
theorem hibernacletop_alike.mono_l : ∀ k, (∀ y0 y1 y2 y3, LeO (hibernacletop_alike.l0 k y0 y1 y2 y3) (hibernacletop_alike.l0 (k + 1) y0 y1 y2 y3))
  | 0 => fun _ _ _ _ r h => by simp [hibernacletop_alike.l0] at h
  | k + 1 => by
    have ih0 := hibernacletop_alike.mono_l k
    · intro y0 y1 y2 y3
      unfold hibernacletop_alike.l0
      repeat' first
      | (with_reducible exact ih0 _ _ _ _)
      | (with_reducible exact LeO.refl _)
      | (with_reducible exact LeO.none _)
      | (with_reducible refine LeO.ite ?_ ?_)
      | (with_reducible refine LeO.bind ?_ (fun _ => ?_))
      | exact ih0 _ _ _ _
      | exact LeO.none _
      | refine LeO.ite ?_ ?_
      | refine LeO.bind ?_ (fun _ => ?_)
theorem hibernacletop_alike.mono : ∀ a0 a1 k, LeO (hibernacletop_alike.f k a0 a1) (hibernacletop_alike.f (k + 1) a0 a1) := by
  intro a0 a1 k
  have ih0 := hibernacletop_alike.mono_l k
  unfold hibernacletop_alike.f
  repeat' first
      | (with_reducible exact ih0 _ _ _ _)
      | (with_reducible exact LeO.refl _)
      | (with_reducible exact LeO.none _)
      | (with_reducible refine LeO.ite ?_ ?_)
      | (with_reducible refine LeO.bind ?_ (fun _ => ?_))
      | exact ih0 _ _ _ _
      | exact LeO.none _
      | refine LeO.ite ?_ ?_
      | refine LeO.bind ?_ (fun _ => ?_)
end Go.Proofs.YtiklcpacbclpnaaDoor.P
end
section
set_option linter.unusedVariables false
set_option linter.unusedSimpArgs false
namespace Go.Proofs.YtiklcpacbclpnaaDoor.P
open Go.RowKit Go.Proofs.YtiklcpacbclpnaaDoorW.PrintWords Go.Proofs.YtiklcpacbclpnaaDoorW.PrintLast Go.Proofs.YtiklcpacbclpnaaDoorW.PrintMore
attribute [local go_sem] isSome_setCell_eq
set_option maxHeartbeats 8000000 in
set_option maxRecDepth 100000 in
theorem store_done (A : Option Addr) (c : Nat) (l : List ByteArray) (s : List Pg) (at1 sz v : Int) (w : World) (hr : Kd.C Kd.string w A l.length l) (hc : l.length ≤ c) (hl : l.length ≤ 100000) (hs : s.length = 16) (h0 : 0 ≤ at1) (v0 : 0 ≤ v) (v1 : v < 4294967296) (hz : sz = 1 ∨ sz = 4) (hf : (findT s at1 sz true).2.2 = true) (ht : mmu_there.f l (findT s at1 sz true).1 = some true) (f0 : 0 ≤ (findT s at1 sz true).1) (f1 : (findT s at1 sz true).1 < (l.length : Int))
    (kk : Nat) (d : ByteArray) (hp : num_Put.f kk (IntKind.u64.wrap v) sz = some d) (r : List ByteArray) (hy : mmu_lay.f l (findT s at1 sz true).1 (findT s at1 sz true).2.1 d = some r) :
    Calls Tryd.prog 18 #[.slice A l.length c, .agg (spv s), .int .u32 at1, .int .i64 sz, .int .u32 v] w fun e w' => ∃ u, e = .returned (.tuple #[u, .bool true]) ∧ Kd.R Kd.string 9 w' w.heap.size (fun _ => True) u r ∧ Below w.heap.size w w' := by
  have HB := Aside0.mk (Below.refl w.heap.size w)
  have HR := Aside0.mk hr
  have HC := Aside0.mk hc
  have HL := Aside0.mk hl
  have F := fun w => find_calls s at1 sz true w hs h0 hz
  rw [hf] at F
  revert ht F f0 f1 hy
  generalize (findT s at1 sz true).1 = f1
  generalize (findT s at1 sz true).2.1 = f2
  intro ht p0 q0 hy F
  have PA := Aside0.mk hp
  have YA := Aside0.mk hy
  have FA := Aside0.mk F
  have TA := Aside0.mk ht
  have hl1 : 1 ≤ l.length := by omega
  have HL1 := Aside0.mk hl1
  clear F hf ht hr hc hl hl1 hp hy hz v0 v1 h0
  go_enter Tryd.func18, Tryd.ntmps18
  go_wp2_with (first | ((with_reducible refine gate_dst (N := 6) rfl ?_); refine box_event ?hg (N := 6) ?hd (cs := spv s) (t := 29) ?hr ?_; (case hd => rfl); (case hg => rfl); (case hr => first | (go_simp; done) | (go_simp; rfl)); intro gb hg w1 hbox hb; have n0_ := Aside0.mk (below_step HB.out hb); have n1_ := Aside0.mk (Kd.C_below HR.out hb); clear HB HR; have HB := n0_; have HR := n1_; clear n0_ n1_; have BK := Aside0.mk hbox; clear hbox hb hg) | ((with_reducible refine gate_dst (N := 17) rfl ?_); refine wpList_load_row rfl 29 (.tmp 6) rfl gb rfl 29 (spv s) (0, 0) _ BK.out Tryd.underlying29 rfl (space_info hs) ?_) | ((with_reducible refine gate_callee (f := 28) rfl ?_); refine goesL_ (some 20) rfl rfl Tryd.func28 (by kernel_rfl) rfl #[.agg (spv s), .int .u32 at1, .int .i64 sz, .bool true] rfl (by (try simp only [List.map_toArray, List.map_cons, List.map_nil]); first | done | rfl) ?_; refine (FA.out _).mono ?_; rintro e w2 ⟨rfl, hb⟩; refine ⟨_, rfl, ?_⟩; have n0_ := Aside0.mk (below_step HB.out hb); have n1_ := Aside0.mk (Kd.C_below HR.out hb); clear HB HR; have HB := n0_; have HR := n1_; clear n0_ n1_; clear hb BK) | (go_at_call 29; (with_reducible refine (mmu_there.calls A c l f1 true _ HR.out HC.out TA.out).mono ?_); rintro e w' ⟨rfl, ⟨nd, rfl⟩⟩; have n0_ := Aside0.mk (pw_below_drewN HB.out nd); have n1_ := Aside0.mk (Kd.C_drewN HR.out nd); clear HB HR; have HB := n0_; have HR := n1_; clear n0_ n1_) | ((with_reducible refine gate_callee (f := 24) rfl ?_); refine goesL_ (some 33) rfl rfl Tryd.func24 (by kernel_rfl) rfl #[.slice A l.length c] rfl (by (try simp only [List.map_toArray, List.map_cons, List.map_nil]); first | done | rfl) ?_; refine (clone_calls A c l _ HR.out HL1.out HL.out).mono ?_; rintro e w3 ⟨vc, rfl, ho, hb⟩; refine ⟨_, rfl, ?_⟩; have n1_ := Aside0.mk (Kd.R_lower ho (below_size HB.out)); have n0_ := Aside0.mk (below_step HB.out hb); clear HB HR; have HB := n0_; have HO := n1_; clear n0_ n1_ hb ho) | ((with_reducible refine gate_callee (f := 46) rfl ?_); refine goesL_ (some 40) rfl rfl Tryd.func46 (by kernel_rfl) rfl #[.int .u64 (IntKind.u64.wrap v), .int .i64 sz] rfl (by (try simp only [List.map_toArray, List.map_cons, List.map_nil]); first | done | rfl) ?_; refine (num_Put.calls kk (IntKind.u64.wrap v) sz d _ PA.out).mono ?_; rintro e w4 ⟨rfl, hb⟩; refine ⟨_, rfl, ?_⟩; have n1_ := Aside0.mk (Kd.R_below HO.out hb); have n0_ := Aside0.mk (below_step HB.out hb); clear HB HO; have HB := n0_; have HO := n1_; clear n0_ n1_ hb) | ((with_reducible refine gate_callee (f := 27) rfl ?_); refine goesL_ (some 41) rfl rfl Tryd.func27 (by kernel_rfl) rfl #[vc, .int .i64 f1, .int .i64 f2, .string d] rfl (by (try simp only [List.map_toArray, List.map_cons, List.map_nil]); first | done | rfl) ?_; refine (mmu_lay.calls (fun _ => True) vc l f1 f2 d r w _ HB.out HO.out YA.out).mono ?_; rintro e w5 ⟨rfl, ho, hb, _⟩; refine ⟨_, rfl, ?_⟩; have n1_ := Aside0.mk (Kd.R_mono ho (fun _ _ => trivial)); clear HB HO; have HB := Aside0.mk hb; have HO := n1_; clear n1_ hb ho))
  refine bodyPost_ret (results_list (rs := [.tmp 10, .tmp 11]) rfl (by simp) (.tmp (.tmp .nil))) rfl ?_
  exact ⟨_, by first | exact rfl | (with_unfolding_all exact rfl), HO.out, HB.out⟩
end Go.Proofs.YtiklcpacbclpnaaDoor.P
end
section
set_option linter.unusedVariables false
set_option linter.unusedSimpArgs false
namespace Go.Proofs.YtiklcpacbclpnaaDoor.P
open Go.RowKit Go.Proofs.YtiklcpacbclpnaaDoorW.PrintWords Go.Proofs.YtiklcpacbclpnaaDoorW.PrintLast Go.Proofs.YtiklcpacbclpnaaDoorW.PrintMore
theorem put_loop (x : Int) (m : Nat) (hm : m ≤ 8) : ∀ (d i : Nat) (y : List Int), y.length = m → i + d = m → ∃ r : ByteArray, r.size = m ∧ Ev (fun k => num_Put.l0 k x y (m : Int) (i : Int)) r := by
  intro d
  induction d with
  | zero =>
    intro i y hy hi
    refine ⟨strOfNums y, by rw [strOfNums_size, hy], Ev.step (f := fun _ => some (strOfNums y)) (fun k => ?_) (Ev.now _)⟩
    simp only [num_Put.l0]
    rw [if_neg (by omega)]
  | succ d ih =>
    intro i y hy hi
    have e1 : wrap64 ((i : Int) + 1) = ((i + 1 : Nat) : Int) := by unfold wrap64; omega
    have e8 : wrap64 (8 * (i : Int)) = 8 * (i : Int) := by unfold wrap64; omega
    obtain ⟨r, hs, hr⟩ := ih (i + 1) (y.set (i : Int).toNat ((shr .u64 x (8 * (i : Int))) % 256)) (by rw [List.length_set, hy]) (by omega)
    refine ⟨r, hs, Ev.step (fun k => ?_) hr⟩
    simp only [num_Put.l0, e1, e8]
    rw [if_pos (by omega), if_pos (by omega), if_pos (by omega), if_pos (by omega)]
theorem put_ex (x sz : Int) (hz : sz = 1 ∨ sz = 4) : ∃ r : ByteArray, (r.size : Int) = sz ∧ ∃ k, num_Put.f k x sz = some r := by
  obtain ⟨m, rfl⟩ : ∃ m : Nat, sz = (m : Int) := ⟨sz.toNat, by omega⟩
  obtain ⟨r, hs, hr⟩ := put_loop x m (by omega) m 0 (List.replicate m 0) (by simp) (by omega)
  obtain ⟨k, hk⟩ := hr.rounds
  refine ⟨r, by omega, k, ?_⟩
  have e : mn (mx (m : Int) 0) 8 = (m : Int) := by rcases hz with h | h <;> rw [h] <;> decide
  unfold num_Put.f
  simp only [e, Int.toNat_natCast, Option.bind_some, List.length_replicate]
  rw [if_pos (by omega), if_pos (by omega)]
  exact hk
def laidIn (b : ByteArray) (k : Int) (d : ByteArray) : ByteArray := (b.extract 0 k.toNat ++ d) ++ b.extract (k + (d.size : Int)).toNat b.size
theorem lay_eq (l : List ByteArray) (f k : Int) (d : ByteArray) (f0 : 0 ≤ f) (f1 : f < (l.length : Int)) (hb : (rdOf ByteArray.empty l f).size = 128) (k0 : 0 ≤ k) (k1 : k + (d.size : Int) ≤ 128) :
    mmu_lay.f l f k d = some (l.set f.toNat (laidIn (rdOf ByteArray.empty l f) k d)) := by
  unfold mmu_lay.f laidIn
  have e : wrap64 (k + (d.size : Int)) = k + (d.size : Int) := by unfold wrap64; omega
  rw [if_pos f0, if_pos f1, if_pos k0, if_pos (by omega), if_pos (by rw [ByteArray.size_extract]; omega), e, if_pos (by omega), if_pos (by omega), if_pos (by rw [ByteArray.size_append, ByteArray.size_extract, ByteArray.size_extract]; omega)]
noncomputable def putV (x sz : Int) : ByteArray := if h : sz = 1 ∨ sz = 4 then Classical.choose (put_ex x sz h) else ByteArray.empty
theorem putV_eq (x sz : Int) (hz : sz = 1 ∨ sz = 4) : ((putV x sz).size : Int) = sz ∧ ∃ k, num_Put.f k x sz = some (putV x sz) := by
  unfold putV
  rw [dif_pos hz]
  exact Classical.choose_spec (put_ex x sz hz)
def canStore (l : List ByteArray) (s : List Pg) (at1 sz : Int) : Bool := (findT s at1 sz true).2.2 && thereB l (findT s at1 sz true).1
noncomputable def stored (l : List ByteArray) (s : List Pg) (at1 sz v : Int) : List ByteArray :=
  l.set (findT s at1 sz true).1.toNat (laidIn (rdOf ByteArray.empty l (findT s at1 sz true).1) (findT s at1 sz true).2.1 (putV (IntKind.u64.wrap v) sz))
theorem store_yes (A : Option Addr) (c : Nat) (l : List ByteArray) (s : List Pg) (at1 sz v : Int) (w : World) (hr : Kd.C Kd.string w A l.length l) (hc : l.length ≤ c) (hl : l.length ≤ 100000) (hs : s.length = 16) (h0 : 0 ≤ at1) (v0 : 0 ≤ v) (v1 : v < 4294967296) (hz : sz = 1 ∨ sz = 4) (hg : canStore l s at1 sz = true) :
    Calls Tryd.prog 18 #[.slice A l.length c, .agg (spv s), .int .u32 at1, .int .i64 sz, .int .u32 v] w fun e w' => ∃ u, e = .returned (.tuple #[u, .bool true]) ∧ Kd.R Kd.string 9 w' w.heap.size (fun _ => True) u (stored l s at1 sz v) ∧ Below w.heap.size w w' := by
  unfold canStore at hg
  obtain ⟨hf, ht⟩ := Bool.and_eq_true_iff.1 hg
  have hT := there_eq l (findT s at1 sz true).1
  rw [ht] at hT
  unfold thereB at ht
  obtain ⟨f0, f1, hd⟩ := of_decide_eq_true ht
  obtain ⟨_, k0, k1⟩ := findT_in h0 hz hf
  obtain ⟨p1, kk, p2⟩ := putV_eq (IntKind.u64.wrap v) sz hz
  exact store_done A c l s at1 sz v w hr hc hl hs h0 v0 v1 hz hf hT f0 f1 kk _ p2 _ (lay_eq l _ _ _ f0 f1 hd k0 (by rw [p1]; exact k1))
theorem store_no (A : Option Addr) (c : Nat) (l : List ByteArray) (s : List Pg) (at1 sz v : Int) (w : World) (hr : Kd.C Kd.string w A l.length l) (hc : l.length ≤ c) (hs : s.length = 16) (h0 : 0 ≤ at1) (hz : sz = 1 ∨ sz = 4) (hg : canStore l s at1 sz = false) :
    Calls Tryd.prog 18 #[.slice A l.length c, .agg (spv s), .int .u32 at1, .int .i64 sz, .int .u32 v] w fun e w' => e = .returned (.tuple #[.slice none 0 0, .bool false]) ∧ Below w.heap.size w w' := by
  unfold canStore at hg
  cases hf : (findT s at1 sz true).2.2 with
  | false => exact store_none A c l s at1 sz v w hs h0 hz hf
  | true =>
    rw [hf, Bool.true_and] at hg
    have hT := there_eq l (findT s at1 sz true).1
    rw [hg] at hT
    exact store_gone A c l s at1 sz v w hr hc hs h0 hz hf hT
end Go.Proofs.YtiklcpacbclpnaaDoor.P
end
section
set_option linter.unusedVariables false
set_option linter.unusedSimpArgs false
namespace Go.Proofs.YtiklcpacbclpnaaDoor.P
open Go.RowKit Go.Proofs.YtiklcpacbclpnaaDoorW.PrintWords Go.Proofs.YtiklcpacbclpnaaDoorW.PrintLast Go.Proofs.YtiklcpacbclpnaaDoorW.PrintMore
attribute [local go_sem] isSome_setCell_eq
set_option maxRecDepth 100000 in
theorem idx23 (g : Nat) (k : IntKind) (i : Int) (h0 : 0 ≤ i) (h1 : i < 16) (w : World) : (Instr.indexAt 23 (.pointer (some ⟨g, 0, none⟩)) (.int k i)).run Tryd.prog w = .ok (.pointer (some ⟨g, i.toNat, none⟩)) w := by
  have ha : Tryd.prog.arrayLen 23 = 16 := by kernel_rfl
  have hs : ∀ w, (sizeOf (Tryd.prog.elem 23)).run Tryd.prog w = .ok 1 w := fun w => by
    have : (Tryd.prog.info? (Tryd.prog.elem 23)).map (·.size) = some 1 := by kernel_rfl
    cases hq : Tryd.prog.info? (Tryd.prog.elem 23) with
    | none => rw [hq] at this; cases this
    | some i => rw [hq] at this; injection this with this; simp [sizeOf, typeInfo, hq, this]
  rw [run_indexAt_array w 23 _ k i (by kernel_rfl), ha, if_pos ⟨h0, by omega⟩, hs]
  have e : (⟨g, 0, none⟩ : Addr).add (i.toNat * 1) = ⟨g, i.toNat, none⟩ := by
    unfold Addr.add
    by_cases h : i.toNat = 0
    · rw [if_pos (by omega), h]
    · rw [if_neg (by omega)]
      simp
  show Result.ok _ _ = _
  rw [e]
theorem store_add {B : Nat} {w0 W w1 : World} {a b c d e : Blk} {rest : List Blk} {u : Value} {l : List ByteArray} (h : St B w0 W (a :: b :: c :: d :: e :: rest)) (hu : Kd.R Kd.string 9 w1 W.heap.size (fun _ => True) u l) (hb : Below W.heap.size W w1) :
    ∃ cu, St B w0 w1 (a :: b :: c :: d :: (u.ownBlock, cu, 9) :: rest) ∧ ∀ w2 : World, (∀ g, u.ownBlock = some g → w2.heap[g]? = some (.cells cu 9 (0, 0))) → Kd.R Kd.string 9 w2 B (fun _ => True) u l := by
  have h0 : St B w0 W (a :: b :: c :: d :: rest) := h.sub (.cons_cons _ (.cons_cons _ (.cons_cons _ (.cons_cons _ (.cons _ (List.Sublist.refl _))))))
  have h1 := h0.later hb
  have hlow := h.low
  have hown := Kd.own_of_R hu
  obtain ⟨hlen, hcase⟩ := hown
  rcases hcase with ⟨rfl, hn⟩ | ⟨g, cap, cur, rfl, hbb, hcell, hcap, hmax, hsz, htk⟩
  · refine ⟨#[], (h1.add none #[] 9 (fun g hg => by cases hg)).perm (List.perm_middle (l₁ := [a, b, c, d])).symm, fun w2 _ => ?_⟩
    exact Kd.R_of_own ⟨hlen, .inl ⟨rfl, hn⟩⟩ (fun _ _ => trivial)
  · refine ⟨cur, (h1.add (some g) cur 9 (fun g' hg' => ?_)).perm (List.perm_middle (l₁ := [a, b, c, d])).symm, fun w2 h2 => ?_⟩
    · injection hg' with hg'
      subst hg'
      exact ⟨by omega, hcell, fun x hx e => by have := h0.lt hx e; omega⟩
    · exact Kd.R_of_own ⟨hlen, .inr ⟨g, cap, cur, rfl, by omega, h2 g rfl, hcap, hmax, hsz, htk⟩⟩ (fun _ _ => trivial)
theorem set00 (R : List Int) : (R.set 0 0).set 0 0 = R.set 0 0 := by rw [List.set_set]
theorem conv2122 (n r : Int) (h : IntKind.u32.wrap n = r) (w : World) : (convert 21 22 (.int .i32 n)).run Tryd.prog w = .ok (.int .u32 r) w := by
  rw [run_convert_int w 21 22 .i32 n (by kernel_rfl) (by kernel_rfl)]
  have : Tryd.prog.intKind 22 = .u32 := by kernel_rfl
  rw [this, h]
end Go.Proofs.YtiklcpacbclpnaaDoor.P
end
section
set_option linter.unusedVariables false
set_option linter.unusedSimpArgs false
namespace Go.Proofs.YtiklcpacbclpnaaDoor.P
open Go.RowKit Go.Proofs.YtiklcpacbclpnaaDoorW.PrintWords Go.Proofs.YtiklcpacbclpnaaDoorW.PrintLast Go.Proofs.YtiklcpacbclpnaaDoorW.PrintMore
attribute [local go_sem] isSome_setCell_eq
set_option maxHeartbeats 8000000 in
set_option maxRecDepth 100000 in
theorem step_ill (G : ByteArray → Int) (hG : ∀ b : ByteArray, b.size ≤ 8 → ∃ k, num_Get.f k b = some (G b)) (R : List Int) (pc : Int) (A : Option Addr) (c : Nat) (l : List ByteArray) (s : List Pg) (w : World) (hR : R.length = 16) (hpc : 0 ≤ pc) (hr : Kd.C Kd.string w A l.length l) (hc : l.length ≤ c) (hs : s.length = 16) (hl : l.length ≤ 100000) (r40 : Int) (hf : loadT G l s pc 4 = (r40, true)) (kd : Nat) (op oA oB oC im : Int) (hd : isa_Dec.f kd r40 = some (op, oA, oB, oC, im, false)) :
    Calls Tryd.prog 7 #[.agg (cpv R pc), .agg (spv s), .slice A l.length c] w (StepEnds w R pc l l 3 r40) := by
  have HS := Aside0.mk (St.start w)
  have HR := Aside0.mk hr
  have HC := Aside0.mk hc
  have HL := Aside0.mk hl
  have HD := Aside0.mk hd
  have L4 := Aside0.mk (fun (w : World) (hr : Kd.C Kd.string w A l.length l) => load_calls G hG A c l s pc 4 w hr hc hs hpc (Or.inr rfl))
  rw [hf] at L4
  dsimp only at L4
  clear hr hc hl hd hf
  have hu25 := Tryd.underlying25
  go_enter Tryd.func7, Tryd.ntmps7
  go_wp2_with (first | ((with_reducible refine gate_dst (N := 3) rfl ?_); refine xl_box HS.out rfl 3 rfl (cpv R pc) 25 ?hr ?_; (case hr => first | (go_simp; done) | (go_simp; rfl)); intro gc w_ hs_; clear HS; have HS := Aside0.mk hs_; clear hs_) | ((with_reducible refine gate_dst (N := 4) rfl ?_); refine xl_box HS.out rfl 4 rfl (spv s) 29 ?hr ?_; (case hr => first | (go_simp; done) | (go_simp; rfl)); intro gs w_ hs_; clear HS; have HS := Aside0.mk hs_; clear hs_) | ((with_reducible refine gate_dst (N := 6) rfl ?_); refine xl_box HS.out rfl 6 rfl (Array.replicate 17 (.int .u32 0)) 25 ?hr ?_; (case hr => first | (go_simp; done) | (go_simp; rfl)); intro gr w_ hs_; clear HS; have HS := Aside0.mk hs_; clear hs_) | ((with_reducible refine gate_dst (N := 8) rfl ?_); refine xl_box HS.out rfl 8 rfl #[.int .i64 0, .int .u32 0] 35 ?hr ?_; (case hr => first | (go_simp; done) | (go_simp; rfl)); intro ge w_ hs_; clear HS; have HS := Aside0.mk hs_; clear hs_) | ((with_reducible refine gate_dst (N := 27) rfl ?_); refine Kd.R_append_row Value.string ByteArray.empty (h1 := fun _ => rfl) (w0 := w) w.heap.size rfl (.const (.slice none 0 0)) (.tmp 26) 30 9 (.string ByteArray.empty) 16 rfl Tryd.underlying30 (by kernel_rfl) rfl (by decide) (.slice none 0 0) [] l A l.length c (fun _ => True) rfl rfl (fun _ _ => trivial) (Kd.R_nil Kd.string 9 _ w.heap.size _) (Kd.C_below HR.out HS.out.below) HS.out.below HS.out.low (by have := HL.out; simp only [List.length_nil]; omega) ?_; intro v5 w5 ho hb hgr hfr; obtain ⟨c5, hs5, hk5⟩ := same_add HS.out ho hgr hfr; clear HS; have HS := Aside0.mk hs5; have HO := Aside0.mk hk5; clear hs5 hk5 ho hb hgr hfr) | ((with_reducible refine gate_dst (N := 30) rfl ?_); refine xl_loadRow HS.out 3 gs (spv s) 29 rfl rfl 29 (.tmp 4) rfl rfl (by kernel_rfl) (space_info hs) ?_) | ((with_reducible refine gate_dst (N := 32) rfl ?_); refine xl_load HS.out 4 gc (cpv R pc) 25 rfl rfl 22 (.tmp 31) rfl 16 rfl (by kernel_rfl) (.int .u32 pc) (cpv_pc pc hR) ?_) | ((with_reducible refine gate_callee (f := 13) rfl ?_); refine goesL_ (some 33) rfl rfl Tryd.func13 (by kernel_rfl) rfl #[.slice A l.length c, .agg (spv s), .int .u32 pc, .int .i64 4] rfl (by (try simp only [List.map_toArray, List.map_cons, List.map_nil]); first | done | rfl) ?_; refine (L4.out _ (Kd.C_below HR.out HS.out.below)).mono ?_; rintro e w_ ⟨rfl, hb_⟩; refine ⟨_, rfl, ?_⟩; have hs_ := HS.out.later hb_; clear HS; have HS := Aside0.mk hs_; clear hs_; clear hb_) | ((with_reducible refine gate_callee (f := 14) rfl ?_); refine goesL_ (some 45) rfl rfl Tryd.func14 (by kernel_rfl) rfl #[.int .u32 r40] rfl (by (try simp only [List.map_toArray, List.map_cons, List.map_nil]); first | done | rfl) ?_; refine (isa_Dec.calls kd r40 op oA oB oC im false _ HD.out).mono ?_; rintro e w_ ⟨rfl, hb_⟩; refine ⟨_, rfl, ?_⟩; have hs_ := HS.out.later hb_; clear HS; have HS := Aside0.mk hs_; clear hs_; clear hb_) | ((with_reducible refine gate_dst (N := 12) rfl ?_); refine xl_box HS.out rfl 12 rfl #[.int .u8 0, .int .u8 0, .int .u8 0, .int .u8 0, .int .i32 0] 48 ?hr ?_; (case hr => first | (go_simp; done) | (go_simp; rfl)); intro gi w_ hs_; clear HS; have HS := Aside0.mk hs_; clear hs_) | ((with_reducible refine gate_store (t := 48) (p := 12) rfl ?_); refine xl_storeRow HS.out 0 gi #[.int .u8 0, .int .u8 0, .int .u8 0, .int .u8 0, .int .i32 0] 48 rfl rfl rfl 48 (.tmp 12) (.tmp 46) rfl rfl #[.int .u8 op, .int .u8 oA, .int .u8 oB, .int .u8 oC, .int .i32 im] rfl (by kernel_rfl) rfl (by simp [Value.oneCell']) ?_; intro w_ hs_; clear HS; have HS := Aside0.mk hs_; clear hs_) | ((with_reducible refine gate_dst (N := 50) rfl ?_); refine xl_loadRow HS.out 5 gc (cpv R pc) 25 rfl rfl 25 (.tmp 3) rfl rfl (by kernel_rfl) (cpu_info pc hR) ?_) | ((with_reducible refine gate_store (t := 25) (p := 6) rfl ?_); refine xl_storeRow HS.out 3 gr (Array.replicate 17 (.int .u32 0)) 25 rfl rfl rfl 25 (.tmp 6) (.tmp 50) rfl rfl (cpv R pc) rfl (cpu_info pc hR) (by simp [cpv_size pc hR]) (cpv_one R pc) ?_; intro w_ hs_; clear HS; have HS := Aside0.mk hs_; clear hs_) | ((with_reducible refine gate_store (t := 35) (p := 8) rfl ?_); refine xl_storeRow HS.out 2 ge #[.int .i64 0, .int .u32 0] 35 rfl rfl rfl 35 (.tmp 8) (.tmp 53) rfl rfl #[.int .i64 3, .int .u32 r40] rfl (by kernel_rfl) rfl (by simp [Value.oneCell']) ?_; intro w_ hs_; clear HS; have HS := Aside0.mk hs_; clear hs_))
  refine bodyPost_ret (v := .tuple #[.agg (cpv R pc), v5, .agg #[.int .i64 3, .int .u32 r40]]) (results_list (rs := [.cell 6 25, .tmp 7, .cell 8 35]) (vs := [.agg (cpv R pc), v5, .agg #[.int .i64 3, .int .u32 r40]]) rfl (by simp) (.cell gr 25 (cpv R pc) (0, 0) _ rfl (HS.out.blk (n := 3) rfl) Tryd.underlying25 rfl (cpu_info pc hR) (.tmp (.cell ge 35 _ (0, 0) _ rfl (HS.out.blk (n := 2) rfl) Tryd.underlying35 rfl (by kernel_rfl) .nil)))) rfl ?_
  exact ⟨v5, rfl, HO.out _ (fun g hg => (HS.out.own _ (List.mem_of_getElem? (i := 1) rfl) g hg).2), HS.out.below⟩
end Go.Proofs.YtiklcpacbclpnaaDoor.P
end
section
set_option linter.unusedVariables false
set_option linter.unusedSimpArgs false
namespace Go.Proofs.YtiklcpacbclpnaaDoor.P
open Go.RowKit Go.Proofs.YtiklcpacbclpnaaDoorW.PrintWords Go.Proofs.YtiklcpacbclpnaaDoorW.PrintLast Go.Proofs.YtiklcpacbclpnaaDoorW.PrintMore
attribute [local go_sem] isSome_setCell_eq
theorem shl16 (x r : Int) (h : IntKind.u32.wrap (x * 65536) = r) (w : World) : (binOp .shl 22 (.int .u32 x) (.int .u64 16)).run Tryd.prog w = .ok (.int .u32 r) w := by
  rw [binOp_shl]
  have e : min 16 IntKind.u32.bits = 16 := by decide
  simp [Op.shift, e, h]
set_option maxHeartbeats 8000000 in
set_option maxRecDepth 100000 in
theorem step_lui (G : ByteArray → Int) (hG : ∀ b : ByteArray, b.size ≤ 8 → ∃ k, num_Get.f k b = some (G b)) (R : List Int) (pc : Int) (A : Option Addr) (c : Nat) (l : List ByteArray) (s : List Pg) (w : World) (hR : R.length = 16) (hpc : 0 ≤ pc) (hr : Kd.C Kd.string w A l.length l) (hc : l.length ≤ c) (hs : s.length = 16) (hl : l.length ≤ 100000) (r40 : Int) (hf : loadT G l s pc 4 = (r40, true)) (kd : Nat) (op oA oB oC im : Int) (hd : isa_Dec.f kd r40 = some (op, oA, oB, oC, im, true)) (hA : 0 ≤ oA ∧ oA < 16) (hB : 0 ≤ oB ∧ oB < 16) (P1 iw at1 ra rb : Int) (hP : IntKind.u32.wrap (pc + 4) = P1) (hI : IntKind.u32.wrap im = iw) (hT : IntKind.u32.wrap (rb + iw) = at1) (hra : (R.set 0 0).getD oA.toNat 0 = ra) (hrb : (R.set 0 0).getD oB.toNat 0 = rb) (c13 : decide (op ≤ 13) = false) (c18 : decide (op ≤ 18) = false) (c19 : (op == 19) = true) (lu : Int) (hlu : IntKind.u32.wrap (iw * 65536) = lu) :
    Calls Tryd.prog 7 #[.agg (cpv R pc), .agg (spv s), .slice A l.length c] w (StepEnds w (((R.set 0 0).set oA.toNat lu).set 0 0) P1 l l 0 0) := by
  have HS := Aside0.mk (St.start w)
  have HR := Aside0.mk hr
  have HC := Aside0.mk hc
  have HL := Aside0.mk hl
  have HD := Aside0.mk hd
  have L4 := Aside0.mk (fun (w : World) (hr : Kd.C Kd.string w A l.length l) => load_calls G hG A c l s pc 4 w hr hc hs hpc (Or.inr rfl))
  rw [hf] at L4
  dsimp only at L4
  clear hr hc hl hd hf
  have hu25 := Tryd.underlying25
  have hR1 : (R.set 0 0).length = 16 := by simp [hR]
  have HP := Aside0.mk hP
  have HI := Aside0.mk hI
  have HT := Aside0.mk hT
  have HA : Aside0 ((cpv (R.set 0 0) P1)[oA.toNat]? = some (.int .u32 ra)) := ⟨by rw [cpv_at P1 hR1 (by omega), hra]⟩
  have HBr : Aside0 ((cpv (R.set 0 0) P1)[oB.toNat]? = some (.int .u32 rb)) := ⟨by rw [cpv_at P1 hR1 (by omega), hrb]⟩
  have HRA := Aside0.mk hra
  have HRB := Aside0.mk hrb
  clear hP hI hT hra hrb
  have HLU := Aside0.mk hlu
  clear hlu
  have hR2 : ((R.set 0 0).set oA.toNat lu).length = 16 := by simp [hR]
  go_enter Tryd.func7, Tryd.ntmps7
  go_wp2_with (first | ((with_reducible refine gate_dst (N := 3) rfl ?_); refine xl_box HS.out rfl 3 rfl (cpv R pc) 25 ?hr ?_; (case hr => first | (go_simp; done) | (go_simp; rfl)); intro gc w_ hs_; clear HS; have HS := Aside0.mk hs_; clear hs_) | ((with_reducible refine gate_dst (N := 4) rfl ?_); refine xl_box HS.out rfl 4 rfl (spv s) 29 ?hr ?_; (case hr => first | (go_simp; done) | (go_simp; rfl)); intro gs w_ hs_; clear HS; have HS := Aside0.mk hs_; clear hs_) | ((with_reducible refine gate_dst (N := 6) rfl ?_); refine xl_box HS.out rfl 6 rfl (Array.replicate 17 (.int .u32 0)) 25 ?hr ?_; (case hr => first | (go_simp; done) | (go_simp; rfl)); intro gr w_ hs_; clear HS; have HS := Aside0.mk hs_; clear hs_) | ((with_reducible refine gate_dst (N := 8) rfl ?_); refine xl_box HS.out rfl 8 rfl #[.int .i64 0, .int .u32 0] 35 ?hr ?_; (case hr => first | (go_simp; done) | (go_simp; rfl)); intro ge w_ hs_; clear HS; have HS := Aside0.mk hs_; clear hs_) | ((with_reducible refine gate_dst (N := 27) rfl ?_); refine Kd.R_append_row Value.string ByteArray.empty (h1 := fun _ => rfl) (w0 := w) w.heap.size rfl (.const (.slice none 0 0)) (.tmp 26) 30 9 (.string ByteArray.empty) 16 rfl Tryd.underlying30 (by kernel_rfl) rfl (by decide) (.slice none 0 0) [] l A l.length c (fun _ => True) rfl rfl (fun _ _ => trivial) (Kd.R_nil Kd.string 9 _ w.heap.size _) (Kd.C_below HR.out HS.out.below) HS.out.below HS.out.low (by have := HL.out; simp only [List.length_nil]; omega) ?_; intro v5 w5 ho hb hgr hfr; obtain ⟨c5, hs5, hk5⟩ := same_add HS.out ho hgr hfr; clear HS; have HS := Aside0.mk hs5; have HO := Aside0.mk hk5; clear hs5 hk5 ho hb hgr hfr) | ((with_reducible refine gate_dst (N := 30) rfl ?_); refine xl_loadRow HS.out 3 gs (spv s) 29 rfl rfl 29 (.tmp 4) rfl rfl (by kernel_rfl) (space_info hs) ?_) | ((with_reducible refine gate_dst (N := 32) rfl ?_); refine xl_load HS.out 4 gc (cpv R pc) 25 rfl rfl 22 (.tmp 31) rfl 16 rfl (by kernel_rfl) (.int .u32 pc) (cpv_pc pc hR) ?_) | ((with_reducible refine gate_callee (f := 13) rfl ?_); refine goesL_ (some 33) rfl rfl Tryd.func13 (by kernel_rfl) rfl #[.slice A l.length c, .agg (spv s), .int .u32 pc, .int .i64 4] rfl (by (try simp only [List.map_toArray, List.map_cons, List.map_nil]); first | done | rfl) ?_; refine (L4.out _ (Kd.C_below HR.out HS.out.below)).mono ?_; rintro e w_ ⟨rfl, hb_⟩; refine ⟨_, rfl, ?_⟩; have hs_ := HS.out.later hb_; clear HS; have HS := Aside0.mk hs_; clear hs_; clear hb_) | ((with_reducible refine gate_callee (f := 14) rfl ?_); refine goesL_ (some 45) rfl rfl Tryd.func14 (by kernel_rfl) rfl #[.int .u32 r40] rfl (by (try simp only [List.map_toArray, List.map_cons, List.map_nil]); first | done | rfl) ?_; refine (isa_Dec.calls kd r40 op oA oB oC im true _ HD.out).mono ?_; rintro e w_ ⟨rfl, hb_⟩; refine ⟨_, rfl, ?_⟩; have hs_ := HS.out.later hb_; clear HS; have HS := Aside0.mk hs_; clear hs_; clear hb_) | ((with_reducible refine gate_dst (N := 12) rfl ?_); refine xl_box HS.out rfl 12 rfl #[.int .u8 0, .int .u8 0, .int .u8 0, .int .u8 0, .int .i32 0] 48 ?hr ?_; (case hr => first | (go_simp; done) | (go_simp; rfl)); intro gi w_ hs_; clear HS; have HS := Aside0.mk hs_; clear hs_) | ((with_reducible refine gate_store (t := 48) (p := 12) rfl ?_); refine xl_storeRow HS.out 0 gi #[.int .u8 0, .int .u8 0, .int .u8 0, .int .u8 0, .int .i32 0] 48 rfl rfl rfl 48 (.tmp 12) (.tmp 46) rfl rfl #[.int .u8 op, .int .u8 oA, .int .u8 oB, .int .u8 oC, .int .i32 im] rfl (by kernel_rfl) rfl (by simp [Value.oneCell']) ?_; intro w_ hs_; clear HS; have HS := Aside0.mk hs_; clear hs_) | ((with_reducible refine gate_dst (N := 54) rfl ?_); refine xl_loadRow HS.out 5 gc (cpv R pc) 25 rfl rfl 25 (.tmp 3) rfl rfl (by kernel_rfl) (cpu_info pc hR) ?_) | ((with_reducible refine gate_dst (N := 13) rfl ?_); refine xl_box HS.out rfl 13 rfl (Array.replicate 17 (.int .u32 0)) 25 ?hr ?_; (case hr => first | (go_simp; done) | (go_simp; rfl)); intro gn w_ hs_; clear HS; have HS := Aside0.mk hs_; clear hs_) | ((with_reducible refine gate_store (t := 25) (p := 13) rfl ?_); refine xl_storeRow HS.out 0 gn (Array.replicate 17 (.int .u32 0)) 25 rfl rfl rfl 25 (.tmp 13) (.tmp 54) rfl rfl (cpv R pc) rfl (cpu_info pc hR) (by simp [cpv_size pc hR]) (cpv_one R pc) ?_; intro w_ hs_; clear HS; have HS := Aside0.mk hs_; clear hs_) | ((with_reducible refine gate_dst (N := 56) rfl ?_); refine xl_index rfl 23 (.tmp 55) (.const (.int .i64 0)) rfl (.pointer (some ⟨gn, 0, none⟩)) (.int .i64 0) rfl rfl (.pointer (some ⟨gn, 0, none⟩)) (fun w => idx23 gn .i64 0 (by decide) (by decide) w) ?_) | ((with_reducible refine gate_store (t := 22) (p := 56) rfl ?_); refine xl_store HS.out 0 gn (cpv R pc) 25 rfl rfl rfl 22 (.tmp 56) (.const (.int .u32 0)) rfl 0 rfl (.int .u32 0) rfl (by kernel_rfl) rfl (by simp [cpv_size pc hR]) ?_; intro w_ hs_; rw [cpv_set pc hR (by decide)] at hs_; clear HS; have HS := Aside0.mk hs_; clear hs_) | ((with_reducible refine gate_dst (N := 58) rfl ?_); refine xl_load HS.out 0 gn (cpv (R.set 0 0) pc) 25 rfl rfl 22 (.tmp 57) rfl 16 rfl (by kernel_rfl) (.int .u32 pc) (cpv_pc pc hR1) ?_) | ((with_reducible refine gate_dst (N := 59) rfl ?_); refine xl_bin rfl .add 22 22 (.tmp 58) (.const (.int .u32 4)) rfl (.int .u32 pc) (.int .u32 4) rfl rfl (.int .u32 P1) rfl (fun w => run_add 22 .u32 pc 4 P1 HP.out w) ?_) | ((with_reducible refine gate_store (t := 22) (p := 60) rfl ?_); refine xl_store HS.out 0 gn (cpv (R.set 0 0) pc) 25 rfl rfl rfl 22 (.tmp 60) (.tmp 59) rfl 16 rfl (.int .u32 P1) rfl (by kernel_rfl) rfl (by simp [cpv_size pc hR1]) ?_; intro w_ hs_; rw [cpv_set16 pc hR1] at hs_; clear HS; have HS := Aside0.mk hs_; clear hs_) | ((with_reducible refine gate_dst (N := 61) rfl ?_); refine xl_loadRow HS.out 0 gn (cpv (R.set 0 0) P1) 25 rfl rfl 25 (.tmp 13) rfl rfl (by kernel_rfl) (cpu_info P1 hR1) ?_) | ((with_reducible refine gate_dst (N := 14) rfl ?_); refine xl_box HS.out rfl 14 rfl (Array.replicate 17 (.int .u32 0)) 25 ?hr ?_; (case hr => first | (go_simp; done) | (go_simp; rfl)); intro gw w_ hs_; clear HS; have HS := Aside0.mk hs_; clear hs_) | ((with_reducible refine gate_store (t := 25) (p := 14) rfl ?_); refine xl_storeRow HS.out 0 gw (Array.replicate 17 (.int .u32 0)) 25 rfl rfl rfl 25 (.tmp 14) (.tmp 61) rfl rfl (cpv (R.set 0 0) P1) rfl (cpu_info P1 hR1) (by simp [cpv_size P1 hR1]) (cpv_one (R.set 0 0) P1) ?_; intro w_ hs_; clear HS; have HS := Aside0.mk hs_; clear hs_))
  refine region_det [(62, (.pointer (some ⟨gi, 1, none⟩))), (63, .int .u8 oA), (64, (.pointer (some ⟨gw, 0, none⟩))), (65, (.pointer (some ⟨gw, oA.toNat, none⟩))), (66, .int .u32 ra), (67, (.pointer (some ⟨gi, 2, none⟩))), (68, .int .u8 oB), (69, (.pointer (some ⟨gw, 0, none⟩))), (70, (.pointer (some ⟨gw, oB.toNat, none⟩))), (71, .int .u32 rb), (72, (.pointer (some ⟨gi, 4, none⟩))), (73, .int .i32 im), (74, .int .u32 iw), (15, .int .u32 ra), (16, .int .u32 rb), (17, .int .u32 iw)] (fun b w' => St w.heap.size w w' [(some gw, cpv (R.set 0 0) P1, 25), (some gn, cpv (R.set 0 0) P1, 25), (some gi, #[.int .u8 op, .int .u8 oA, .int .u8 oB, .int .u8 oC, .int .i32 im], 48), (v5.ownBlock, c5, 9), (some ge, #[.int .i64 0, .int .u32 0], 35), (some gr, (Array.replicate 17 (.int .u32 0)), 25), (some gs, spv s, 29), (some gc, cpv R pc, 25)]) (by kernel_rfl) (by kernel_rfl) (by kernel_rfl) (by kernel_rfl) HS.out.drew (fun af E => ⟨?_, ?_, ?_, ?_, ?_, ?_, ?_, ?_, ?_, ?_, ?_, ?_, ?_, ?_, ?_, ?_, trivial⟩) ?_
  · exact fun b w' _ _ h => may_field rfl 48 (.tmp 12) 1 rfl (.pointer (some ⟨gi, 0, none⟩)) (by rw [E]; rfl) (.pointer (some ⟨gi, 1, none⟩)) (fun w => by first | (go_simp; done) | (go_simp; rfl)) (fun d hd => by cases hd; rw [E]; rfl) h
  · exact fun b w' _ _ h => may_load h 2 gi #[.int .u8 op, .int .u8 oA, .int .u8 oB, .int .u8 oC, .int .i32 im] 48 rfl rfl 5 (.tmp 62) rfl 1 (by rw [E]; rfl) (by kernel_rfl) (.int .u8 oA) rfl (fun d hd => by cases hd; rw [E]; rfl) h
  · exact fun b w' _ _ h => may_field rfl 25 (.tmp 14) 0 rfl (.pointer (some ⟨gw, 0, none⟩)) (by rw [E]; rfl) (.pointer (some ⟨gw, 0, none⟩)) (fun w => by first | (go_simp; done) | (go_simp; rfl)) (fun d hd => by cases hd; rw [E]; rfl) h
  · exact fun b w' _ _ h => may_index rfl 23 (.tmp 64) (.tmp 63) rfl (.pointer (some ⟨gw, 0, none⟩)) (.int .u8 oA) (by rw [E]; rfl) (by rw [E]; rfl) (.pointer (some ⟨gw, oA.toNat, none⟩)) (fun w => idx23 gw .u8 oA hA.1 hA.2 w) (fun d hd => by cases hd; rw [E]; rfl) h
  · exact fun b w' _ _ h => may_load h 0 gw (cpv (R.set 0 0) P1) 25 rfl rfl 22 (.tmp 65) rfl oA.toNat (by rw [E]; rfl) (by kernel_rfl) (.int .u32 ra) HA.out (fun d hd => by cases hd; rw [E]; rfl) h
  · exact fun b w' _ _ h => may_field rfl 48 (.tmp 12) 2 rfl (.pointer (some ⟨gi, 0, none⟩)) (by rw [E]; rfl) (.pointer (some ⟨gi, 2, none⟩)) (fun w => by first | (go_simp; done) | (go_simp; rfl)) (fun d hd => by cases hd; rw [E]; rfl) h
  · exact fun b w' _ _ h => may_load h 2 gi #[.int .u8 op, .int .u8 oA, .int .u8 oB, .int .u8 oC, .int .i32 im] 48 rfl rfl 5 (.tmp 67) rfl 2 (by rw [E]; rfl) (by kernel_rfl) (.int .u8 oB) rfl (fun d hd => by cases hd; rw [E]; rfl) h
  · exact fun b w' _ _ h => may_field rfl 25 (.tmp 14) 0 rfl (.pointer (some ⟨gw, 0, none⟩)) (by rw [E]; rfl) (.pointer (some ⟨gw, 0, none⟩)) (fun w => by first | (go_simp; done) | (go_simp; rfl)) (fun d hd => by cases hd; rw [E]; rfl) h
  · exact fun b w' _ _ h => may_index rfl 23 (.tmp 69) (.tmp 68) rfl (.pointer (some ⟨gw, 0, none⟩)) (.int .u8 oB) (by rw [E]; rfl) (by rw [E]; rfl) (.pointer (some ⟨gw, oB.toNat, none⟩)) (fun w => idx23 gw .u8 oB hB.1 hB.2 w) (fun d hd => by cases hd; rw [E]; rfl) h
  · exact fun b w' _ _ h => may_load h 0 gw (cpv (R.set 0 0) P1) 25 rfl rfl 22 (.tmp 70) rfl oB.toNat (by rw [E]; rfl) (by kernel_rfl) (.int .u32 rb) HBr.out (fun d hd => by cases hd; rw [E]; rfl) h
  · exact fun b w' _ _ h => may_field rfl 48 (.tmp 12) 4 rfl (.pointer (some ⟨gi, 0, none⟩)) (by rw [E]; rfl) (.pointer (some ⟨gi, 4, none⟩)) (fun w => by first | (go_simp; done) | (go_simp; rfl)) (fun d hd => by cases hd; rw [E]; rfl) h
  · exact fun b w' _ _ h => may_load h 2 gi #[.int .u8 op, .int .u8 oA, .int .u8 oB, .int .u8 oC, .int .i32 im] 48 rfl rfl 21 (.tmp 72) rfl 4 (by rw [E]; rfl) (by kernel_rfl) (.int .i32 im) rfl (fun d hd => by cases hd; rw [E]; rfl) h
  · exact fun b w' _ _ h => may_convert rfl 21 22 (.tmp 73) rfl (.int .i32 im) (by rw [E]; rfl) (.int .u32 iw) (fun w => conv2122 im iw HI.out w) (fun d hd => by cases hd; rw [E]; rfl) h
  · exact fun b w' _ _ h => may_move rfl _ (by first | exact .inl rfl | exact .inr rfl) (.int .u32 ra) (by rw [E]; rfl) (fun d hd => by cases hd; rw [E]; rfl) h
  · exact fun b w' _ _ h => may_move rfl _ (by first | exact .inl rfl | exact .inr rfl) (.int .u32 rb) (by rw [E]; rfl) (fun d hd => by cases hd; rw [E]; rfl) h
  · exact fun b w' _ _ h => may_move rfl _ (by first | exact .inl rfl | exact .inr rfl) (.int .u32 iw) (by rw [E]; rfl) (fun d hd => by cases hd; rw [E]; rfl) h
  intro b w_ hall h
  clear HS
  have HS := Aside0.mk h
  clear h hall
  simp only [puts]
  go_wp2_with (first | ((with_reducible refine gate_dst (N := 77) rfl ?_); refine xl_bin rfl .add 22 22 (.tmp 75) (.tmp 76) rfl (.int .u32 rb) (.int .u32 iw) rfl rfl (.int .u32 at1) rfl (fun w => run_add 22 .u32 rb iw at1 HT.out w) ?_) | ((with_reducible refine gate_dst (N := 19) rfl ?_); refine xl_box HS.out rfl 19 rfl #[.int .i64 0, .int .u32 0] 35 ?hr ?_; (case hr => first | (go_simp; done) | (go_simp; rfl)); intro gv w_ hs_; clear HS; have HS := Aside0.mk hs_; clear hs_) | ((with_reducible refine gate_store (t := 35) (p := 19) rfl ?_); refine xl_storeRow HS.out 0 gv #[.int .i64 0, .int .u32 0] 35 rfl rfl rfl 35 (.tmp 19) (.tmp 78) rfl rfl #[.int .i64 0, .int .u32 0] rfl (by kernel_rfl) rfl (by simp [Value.oneCell']) ?_; intro w_ hs_; clear HS; have HS := Aside0.mk hs_; clear hs_) | ((with_reducible refine gate_dst (N := 80) rfl ?_); refine xl_load HS.out 3 gi #[.int .u8 op, .int .u8 oA, .int .u8 oB, .int .u8 oC, .int .i32 im] 48 rfl rfl 5 (.tmp 79) rfl 0 rfl (by kernel_rfl) (.int .u8 op) rfl ?_) | ((with_reducible refine gate_dst (N := 116) rfl ?_); refine xl_load HS.out 3 gi #[.int .u8 op, .int .u8 oA, .int .u8 oB, .int .u8 oC, .int .i32 im] 48 rfl rfl 5 (.tmp 115) rfl 1 rfl (by kernel_rfl) (.int .u8 oA) rfl ?_) | ((with_reducible refine gate_dst (N := 118) rfl ?_); refine xl_bin rfl .shl 22 51 (.tmp 117) (.const (.int .u64 16)) rfl (.int .u32 iw) (.int .u64 16) rfl rfl (.int .u32 lu) rfl (fun w => shl16 iw lu HLU.out w) ?_) | ((with_reducible refine gate_dst (N := 120) rfl ?_); refine xl_index rfl 23 (.tmp 119) (.tmp 116) rfl (.pointer (some ⟨gn, 0, none⟩)) (.int .u8 oA) rfl rfl (.pointer (some ⟨gn, oA.toNat, none⟩)) (fun w => idx23 gn .u8 oA hA.1 hA.2 w) ?_) | ((with_reducible refine gate_store (t := 22) (p := 120) rfl ?_); refine xl_store HS.out 2 gn (cpv (R.set 0 0) P1) 25 rfl rfl rfl 22 (.tmp 120) (.tmp 118) rfl oA.toNat rfl (.int .u32 lu) rfl (by kernel_rfl) rfl (by rw [cpv_size P1 hR1]; omega) ?_; intro w_ hs_; rw [cpv_set P1 hR1 (by omega)] at hs_; clear HS; have HS := Aside0.mk hs_; clear hs_) | ((with_reducible refine gate_dst (N := 204) rfl ?_); refine xl_index rfl 23 (.tmp 203) (.const (.int .i64 0)) rfl (.pointer (some ⟨gn, 0, none⟩)) (.int .i64 0) rfl rfl (.pointer (some ⟨gn, 0, none⟩)) (fun w => idx23 gn .i64 0 (by decide) (by decide) w) ?_) | ((with_reducible refine gate_store (t := 22) (p := 204) rfl ?_); refine xl_store HS.out 2 gn (cpv ((R.set 0 0).set oA.toNat lu) P1) 25 rfl rfl rfl 22 (.tmp 204) (.const (.int .u32 0)) rfl 0 rfl (.int .u32 0) rfl (by kernel_rfl) rfl (by simp [cpv_size P1 hR2]) ?_; intro w_ hs_; rw [cpv_set P1 hR2 (by decide)] at hs_; clear HS; have HS := Aside0.mk hs_; clear hs_))
  refine region_det [(205, .agg (cpv (((R.set 0 0).set oA.toNat lu).set 0 0) P1)), (206, v5), (207, .agg #[.int .i64 0, .int .u32 0]), (7, v5)] (fun b w' => St w.heap.size w w' [(some gv, #[.int .i64 0, .int .u32 0], 35), (some gw, cpv (R.set 0 0) P1, 25), (some gn, cpv (((R.set 0 0).set oA.toNat lu).set 0 0) P1, 25), (some gi, #[.int .u8 op, .int .u8 oA, .int .u8 oB, .int .u8 oC, .int .i32 im], 48), (v5.ownBlock, c5, 9), (some ge, bif b 5 then #[.int .i64 0, .int .u32 0] else #[.int .i64 0, .int .u32 0], 35), (some gr, bif b 3 then cpv (((R.set 0 0).set oA.toNat lu).set 0 0) P1 else (Array.replicate 17 (.int .u32 0)), 25), (some gs, spv s, 29), (some gc, cpv R pc, 25)]) (by kernel_rfl) (by kernel_rfl) (by kernel_rfl) (by kernel_rfl) HS.out.drew (fun af E => ⟨?_, ?_, ?_, ?_, ?_, ?_, trivial⟩) ?_
  · exact fun b w' _ _ h => may_loadRow h 2 gn (cpv (((R.set 0 0).set oA.toNat lu).set 0 0) P1) 25 rfl rfl 25 (.tmp 13) rfl (by rw [E]; rfl) (by kernel_rfl) (cpu_info P1 (show (((R.set 0 0).set oA.toNat lu).set 0 0).length = 16 by simp [hR2])) (fun d hd => by cases hd; rw [E]; rfl) h
  · exact fun b w' _ _ h => may_move rfl _ (by first | exact .inl rfl | exact .inr rfl) v5 (by rw [E]; rfl) (fun d hd => by cases hd; rw [E]; rfl) h
  · exact fun b w' _ _ h => may_loadRow h 0 gv #[.int .i64 0, .int .u32 0] 35 rfl rfl 35 (.tmp 19) rfl (by rw [E]; rfl) (by kernel_rfl) (by kernel_rfl) (fun d hd => by cases hd; rw [E]; rfl) h
  · exact fun b w' _ _ h => may_storeRow h 6 gr _ 25 rfl rfl rfl 25 (.tmp 6) (.tmp 205) rfl (by rw [E]; rfl) (cpv (((R.set 0 0).set oA.toNat lu).set 0 0) P1) (by rw [E]; rfl) (cpu_info P1 (show (((R.set 0 0).set oA.toNat lu).set 0 0).length = 16 by simp [hR2])) (by cases b 3 <;> simp [cpv_size P1 (show (((R.set 0 0).set oA.toNat lu).set 0 0).length = 16 by simp [hR2])]) (cpv_one (((R.set 0 0).set oA.toNat lu).set 0 0) P1) (fun _ h => h)
  · exact fun b w' _ _ h => may_move rfl _ (by first | exact .inl rfl | exact .inr rfl) v5 (by rw [E]; rfl) (fun d hd => by cases hd; rw [E]; rfl) h
  · exact fun b w' _ _ h => may_storeRow h 5 ge _ 35 rfl rfl rfl 35 (.tmp 8) (.tmp 207) rfl (by rw [E]; rfl) #[.int .i64 0, .int .u32 0] (by rw [E]; rfl) (by kernel_rfl) (by cases b 5 <;> rfl) (by simp [Value.oneCell']) (fun _ h => h)
  intro b w_ hall h
  rw [hall 3 (by decide)] at h
  rw [hall 5 (by decide)] at h
  simp only [cond_true] at h
  clear HS
  have HS := Aside0.mk h
  clear h hall
  simp only [puts]
  go_wp2
  refine bodyPost_ret (v := .tuple #[.agg (cpv (((R.set 0 0).set oA.toNat lu).set 0 0) P1), v5, .agg #[.int .i64 0, .int .u32 0]]) (results_list (rs := [.cell 6 25, .tmp 7, .cell 8 35]) (vs := [.agg (cpv (((R.set 0 0).set oA.toNat lu).set 0 0) P1), v5, .agg #[.int .i64 0, .int .u32 0]]) rfl (by simp) (.cell gr 25 (cpv (((R.set 0 0).set oA.toNat lu).set 0 0) P1) (0, 0) _ rfl (HS.out.blk (n := 6) rfl) Tryd.underlying25 rfl (cpu_info P1 (show (((R.set 0 0).set oA.toNat lu).set 0 0).length = 16 by simp [hR2])) (.tmp (.cell ge 35 _ (0, 0) _ rfl (HS.out.blk (n := 5) rfl) Tryd.underlying35 rfl (by kernel_rfl) .nil)))) rfl ?_
  exact ⟨v5, rfl, HO.out _ (fun g hg => (HS.out.own _ (List.mem_of_getElem? (i := 4) rfl) g hg).2), HS.out.below⟩
end Go.Proofs.YtiklcpacbclpnaaDoor.P
end
section
set_option linter.unusedVariables false
set_option linter.unusedSimpArgs false
namespace Go.Proofs.YtiklcpacbclpnaaDoor.P
open Go.RowKit Go.Proofs.YtiklcpacbclpnaaDoorW.PrintWords Go.Proofs.YtiklcpacbclpnaaDoorW.PrintLast Go.Proofs.YtiklcpacbclpnaaDoorW.PrintMore
attribute [local go_sem] isSome_setCell_eq
theorem rk_fn (op : Int) : ∃ fn, Tryd.prog.funcs[rkId op]? = some fn ∧ (fn.name == "runtime.NumGoroutine") = false ∧ fn.body.isSome = true := by
  unfold rkId
  by_cases h1 : op = 1
  · rw [if_pos h1]; exact ⟨_, Tryd.func32, by kernel_rfl, rfl⟩
  rw [if_neg h1]
  by_cases h2 : op = 2
  · rw [if_pos h2]; exact ⟨_, Tryd.func33, by kernel_rfl, rfl⟩
  rw [if_neg h2]
  by_cases h3 : op = 3
  · rw [if_pos h3]; exact ⟨_, Tryd.func34, by kernel_rfl, rfl⟩
  rw [if_neg h3]
  by_cases h4 : op = 4
  · rw [if_pos h4]; exact ⟨_, Tryd.func35, by kernel_rfl, rfl⟩
  rw [if_neg h4]
  by_cases h5 : op = 5
  · rw [if_pos h5]; exact ⟨_, Tryd.func36, by kernel_rfl, rfl⟩
  rw [if_neg h5]
  by_cases h6 : op = 6
  · rw [if_pos h6]; exact ⟨_, Tryd.func37, by kernel_rfl, rfl⟩
  rw [if_neg h6]
  by_cases h7 : op = 7
  · rw [if_pos h7]; exact ⟨_, Tryd.func38, by kernel_rfl, rfl⟩
  rw [if_neg h7]
  by_cases h8 : op = 8
  · rw [if_pos h8]; exact ⟨_, Tryd.func39, by kernel_rfl, rfl⟩
  rw [if_neg h8]
  by_cases h9 : op = 9
  · rw [if_pos h9]; exact ⟨_, Tryd.func40, by kernel_rfl, rfl⟩
  rw [if_neg h9]
  by_cases h10 : op = 10
  · rw [if_pos h10]; exact ⟨_, Tryd.func41, by kernel_rfl, rfl⟩
  rw [if_neg h10]
  by_cases h11 : op = 11
  · rw [if_pos h11]; exact ⟨_, Tryd.func42, by kernel_rfl, rfl⟩
  rw [if_neg h11]
  by_cases h12 : op = 12
  · rw [if_pos h12]; exact ⟨_, Tryd.func43, by kernel_rfl, rfl⟩
  rw [if_neg h12]
  exact ⟨_, Tryd.func45, by kernel_rfl, rfl⟩
set_option maxHeartbeats 8000000 in
set_option maxRecDepth 100000 in
theorem step_three (G : ByteArray → Int) (hG : ∀ b : ByteArray, b.size ≤ 8 → ∃ k, num_Get.f k b = some (G b)) (R : List Int) (pc : Int) (A : Option Addr) (c : Nat) (l : List ByteArray) (s : List Pg) (w : World) (hR : R.length = 16) (hpc : 0 ≤ pc) (hr : Kd.C Kd.string w A l.length l) (hc : l.length ≤ c) (hs : s.length = 16) (hl : l.length ≤ 100000) (r40 : Int) (hf : loadT G l s pc 4 = (r40, true)) (kd : Nat) (op oA oB oC im : Int) (hd : isa_Dec.f kd r40 = some (op, oA, oB, oC, im, true)) (hA : 0 ≤ oA ∧ oA < 16) (hB : 0 ≤ oB ∧ oB < 16) (P1 iw at1 ra rb : Int) (hP : IntKind.u32.wrap (pc + 4) = P1) (hI : IntKind.u32.wrap im = iw) (hT : IntKind.u32.wrap (rb + iw) = at1) (hra : (R.set 0 0).getD oA.toNat 0 = ra) (hrb : (R.set 0 0).getD oB.toNat 0 = rb) (hC : 0 ≤ oC ∧ oC < 16) (rc v : Int) (hrc : (R.set 0 0).getD oC.toNat 0 = rc) (c13 : decide (op ≤ 13) = true) (hk : ∀ w, Calls Tryd.prog (rkId op) #[.int .u32 rb, .int .u32 rc] w fun e w' => e = .returned (.int .u32 v) ∧ Drawn0 w w') :
    Calls Tryd.prog 7 #[.agg (cpv R pc), .agg (spv s), .slice A l.length c] w (StepEnds w (((R.set 0 0).set oA.toNat v).set 0 0) P1 l l 0 0) := by
  have HS := Aside0.mk (St.start w)
  have HR := Aside0.mk hr
  have HC := Aside0.mk hc
  have HL := Aside0.mk hl
  have HD := Aside0.mk hd
  have L4 := Aside0.mk (fun (w : World) (hr : Kd.C Kd.string w A l.length l) => load_calls G hG A c l s pc 4 w hr hc hs hpc (Or.inr rfl))
  rw [hf] at L4
  dsimp only at L4
  clear hr hc hl hd hf
  have hu25 := Tryd.underlying25
  have hR1 : (R.set 0 0).length = 16 := by simp [hR]
  have HP := Aside0.mk hP
  have HI := Aside0.mk hI
  have HT := Aside0.mk hT
  have HA : Aside0 ((cpv (R.set 0 0) P1)[oA.toNat]? = some (.int .u32 ra)) := ⟨by rw [cpv_at P1 hR1 (by omega), hra]⟩
  have HBr : Aside0 ((cpv (R.set 0 0) P1)[oB.toNat]? = some (.int .u32 rb)) := ⟨by rw [cpv_at P1 hR1 (by omega), hrb]⟩
  have HRA := Aside0.mk hra
  have HRB := Aside0.mk hrb
  clear hP hI hT hra hrb
  have HK := Aside0.mk hk
  have HCr : Aside0 ((cpv (R.set 0 0) P1)[oC.toNat]? = some (.int .u32 rc)) := ⟨by rw [cpv_at P1 hR1 (by omega), hrc]⟩
  clear hk hrc
  have hR2 : ((R.set 0 0).set oA.toNat v).length = 16 := by simp [hR]
  go_enter Tryd.func7, Tryd.ntmps7
  go_wp2_with (first | ((with_reducible refine gate_dst (N := 3) rfl ?_); refine xl_box HS.out rfl 3 rfl (cpv R pc) 25 ?hr ?_; (case hr => first | (go_simp; done) | (go_simp; rfl)); intro gc w_ hs_; clear HS; have HS := Aside0.mk hs_; clear hs_) | ((with_reducible refine gate_dst (N := 4) rfl ?_); refine xl_box HS.out rfl 4 rfl (spv s) 29 ?hr ?_; (case hr => first | (go_simp; done) | (go_simp; rfl)); intro gs w_ hs_; clear HS; have HS := Aside0.mk hs_; clear hs_) | ((with_reducible refine gate_dst (N := 6) rfl ?_); refine xl_box HS.out rfl 6 rfl (Array.replicate 17 (.int .u32 0)) 25 ?hr ?_; (case hr => first | (go_simp; done) | (go_simp; rfl)); intro gr w_ hs_; clear HS; have HS := Aside0.mk hs_; clear hs_) | ((with_reducible refine gate_dst (N := 8) rfl ?_); refine xl_box HS.out rfl 8 rfl #[.int .i64 0, .int .u32 0] 35 ?hr ?_; (case hr => first | (go_simp; done) | (go_simp; rfl)); intro ge w_ hs_; clear HS; have HS := Aside0.mk hs_; clear hs_) | ((with_reducible refine gate_dst (N := 27) rfl ?_); refine Kd.R_append_row Value.string ByteArray.empty (h1 := fun _ => rfl) (w0 := w) w.heap.size rfl (.const (.slice none 0 0)) (.tmp 26) 30 9 (.string ByteArray.empty) 16 rfl Tryd.underlying30 (by kernel_rfl) rfl (by decide) (.slice none 0 0) [] l A l.length c (fun _ => True) rfl rfl (fun _ _ => trivial) (Kd.R_nil Kd.string 9 _ w.heap.size _) (Kd.C_below HR.out HS.out.below) HS.out.below HS.out.low (by have := HL.out; simp only [List.length_nil]; omega) ?_; intro v5 w5 ho hb hgr hfr; obtain ⟨c5, hs5, hk5⟩ := same_add HS.out ho hgr hfr; clear HS; have HS := Aside0.mk hs5; have HO := Aside0.mk hk5; clear hs5 hk5 ho hb hgr hfr) | ((with_reducible refine gate_dst (N := 30) rfl ?_); refine xl_loadRow HS.out 3 gs (spv s) 29 rfl rfl 29 (.tmp 4) rfl rfl (by kernel_rfl) (space_info hs) ?_) | ((with_reducible refine gate_dst (N := 32) rfl ?_); refine xl_load HS.out 4 gc (cpv R pc) 25 rfl rfl 22 (.tmp 31) rfl 16 rfl (by kernel_rfl) (.int .u32 pc) (cpv_pc pc hR) ?_) | ((with_reducible refine gate_callee (f := 13) rfl ?_); refine goesL_ (some 33) rfl rfl Tryd.func13 (by kernel_rfl) rfl #[.slice A l.length c, .agg (spv s), .int .u32 pc, .int .i64 4] rfl (by (try simp only [List.map_toArray, List.map_cons, List.map_nil]); first | done | rfl) ?_; refine (L4.out _ (Kd.C_below HR.out HS.out.below)).mono ?_; rintro e w_ ⟨rfl, hb_⟩; refine ⟨_, rfl, ?_⟩; have hs_ := HS.out.later hb_; clear HS; have HS := Aside0.mk hs_; clear hs_; clear hb_) | ((with_reducible refine gate_callee (f := 14) rfl ?_); refine goesL_ (some 45) rfl rfl Tryd.func14 (by kernel_rfl) rfl #[.int .u32 r40] rfl (by (try simp only [List.map_toArray, List.map_cons, List.map_nil]); first | done | rfl) ?_; refine (isa_Dec.calls kd r40 op oA oB oC im true _ HD.out).mono ?_; rintro e w_ ⟨rfl, hb_⟩; refine ⟨_, rfl, ?_⟩; have hs_ := HS.out.later hb_; clear HS; have HS := Aside0.mk hs_; clear hs_; clear hb_) | ((with_reducible refine gate_dst (N := 12) rfl ?_); refine xl_box HS.out rfl 12 rfl #[.int .u8 0, .int .u8 0, .int .u8 0, .int .u8 0, .int .i32 0] 48 ?hr ?_; (case hr => first | (go_simp; done) | (go_simp; rfl)); intro gi w_ hs_; clear HS; have HS := Aside0.mk hs_; clear hs_) | ((with_reducible refine gate_store (t := 48) (p := 12) rfl ?_); refine xl_storeRow HS.out 0 gi #[.int .u8 0, .int .u8 0, .int .u8 0, .int .u8 0, .int .i32 0] 48 rfl rfl rfl 48 (.tmp 12) (.tmp 46) rfl rfl #[.int .u8 op, .int .u8 oA, .int .u8 oB, .int .u8 oC, .int .i32 im] rfl (by kernel_rfl) rfl (by simp [Value.oneCell']) ?_; intro w_ hs_; clear HS; have HS := Aside0.mk hs_; clear hs_) | ((with_reducible refine gate_dst (N := 54) rfl ?_); refine xl_loadRow HS.out 5 gc (cpv R pc) 25 rfl rfl 25 (.tmp 3) rfl rfl (by kernel_rfl) (cpu_info pc hR) ?_) | ((with_reducible refine gate_dst (N := 13) rfl ?_); refine xl_box HS.out rfl 13 rfl (Array.replicate 17 (.int .u32 0)) 25 ?hr ?_; (case hr => first | (go_simp; done) | (go_simp; rfl)); intro gn w_ hs_; clear HS; have HS := Aside0.mk hs_; clear hs_) | ((with_reducible refine gate_store (t := 25) (p := 13) rfl ?_); refine xl_storeRow HS.out 0 gn (Array.replicate 17 (.int .u32 0)) 25 rfl rfl rfl 25 (.tmp 13) (.tmp 54) rfl rfl (cpv R pc) rfl (cpu_info pc hR) (by simp [cpv_size pc hR]) (cpv_one R pc) ?_; intro w_ hs_; clear HS; have HS := Aside0.mk hs_; clear hs_) | ((with_reducible refine gate_dst (N := 56) rfl ?_); refine xl_index rfl 23 (.tmp 55) (.const (.int .i64 0)) rfl (.pointer (some ⟨gn, 0, none⟩)) (.int .i64 0) rfl rfl (.pointer (some ⟨gn, 0, none⟩)) (fun w => idx23 gn .i64 0 (by decide) (by decide) w) ?_) | ((with_reducible refine gate_store (t := 22) (p := 56) rfl ?_); refine xl_store HS.out 0 gn (cpv R pc) 25 rfl rfl rfl 22 (.tmp 56) (.const (.int .u32 0)) rfl 0 rfl (.int .u32 0) rfl (by kernel_rfl) rfl (by simp [cpv_size pc hR]) ?_; intro w_ hs_; rw [cpv_set pc hR (by decide)] at hs_; clear HS; have HS := Aside0.mk hs_; clear hs_) | ((with_reducible refine gate_dst (N := 58) rfl ?_); refine xl_load HS.out 0 gn (cpv (R.set 0 0) pc) 25 rfl rfl 22 (.tmp 57) rfl 16 rfl (by kernel_rfl) (.int .u32 pc) (cpv_pc pc hR1) ?_) | ((with_reducible refine gate_dst (N := 59) rfl ?_); refine xl_bin rfl .add 22 22 (.tmp 58) (.const (.int .u32 4)) rfl (.int .u32 pc) (.int .u32 4) rfl rfl (.int .u32 P1) rfl (fun w => run_add 22 .u32 pc 4 P1 HP.out w) ?_) | ((with_reducible refine gate_store (t := 22) (p := 60) rfl ?_); refine xl_store HS.out 0 gn (cpv (R.set 0 0) pc) 25 rfl rfl rfl 22 (.tmp 60) (.tmp 59) rfl 16 rfl (.int .u32 P1) rfl (by kernel_rfl) rfl (by simp [cpv_size pc hR1]) ?_; intro w_ hs_; rw [cpv_set16 pc hR1] at hs_; clear HS; have HS := Aside0.mk hs_; clear hs_) | ((with_reducible refine gate_dst (N := 61) rfl ?_); refine xl_loadRow HS.out 0 gn (cpv (R.set 0 0) P1) 25 rfl rfl 25 (.tmp 13) rfl rfl (by kernel_rfl) (cpu_info P1 hR1) ?_) | ((with_reducible refine gate_dst (N := 14) rfl ?_); refine xl_box HS.out rfl 14 rfl (Array.replicate 17 (.int .u32 0)) 25 ?hr ?_; (case hr => first | (go_simp; done) | (go_simp; rfl)); intro gw w_ hs_; clear HS; have HS := Aside0.mk hs_; clear hs_) | ((with_reducible refine gate_store (t := 25) (p := 14) rfl ?_); refine xl_storeRow HS.out 0 gw (Array.replicate 17 (.int .u32 0)) 25 rfl rfl rfl 25 (.tmp 14) (.tmp 61) rfl rfl (cpv (R.set 0 0) P1) rfl (cpu_info P1 hR1) (by simp [cpv_size P1 hR1]) (cpv_one (R.set 0 0) P1) ?_; intro w_ hs_; clear HS; have HS := Aside0.mk hs_; clear hs_))
  refine region_det [(62, (.pointer (some ⟨gi, 1, none⟩))), (63, .int .u8 oA), (64, (.pointer (some ⟨gw, 0, none⟩))), (65, (.pointer (some ⟨gw, oA.toNat, none⟩))), (66, .int .u32 ra), (67, (.pointer (some ⟨gi, 2, none⟩))), (68, .int .u8 oB), (69, (.pointer (some ⟨gw, 0, none⟩))), (70, (.pointer (some ⟨gw, oB.toNat, none⟩))), (71, .int .u32 rb), (72, (.pointer (some ⟨gi, 4, none⟩))), (73, .int .i32 im), (74, .int .u32 iw), (15, .int .u32 ra), (16, .int .u32 rb), (17, .int .u32 iw)] (fun b w' => St w.heap.size w w' [(some gw, cpv (R.set 0 0) P1, 25), (some gn, cpv (R.set 0 0) P1, 25), (some gi, #[.int .u8 op, .int .u8 oA, .int .u8 oB, .int .u8 oC, .int .i32 im], 48), (v5.ownBlock, c5, 9), (some ge, #[.int .i64 0, .int .u32 0], 35), (some gr, (Array.replicate 17 (.int .u32 0)), 25), (some gs, spv s, 29), (some gc, cpv R pc, 25)]) (by kernel_rfl) (by kernel_rfl) (by kernel_rfl) (by kernel_rfl) HS.out.drew (fun af E => ⟨?_, ?_, ?_, ?_, ?_, ?_, ?_, ?_, ?_, ?_, ?_, ?_, ?_, ?_, ?_, ?_, trivial⟩) ?_
  · exact fun b w' _ _ h => may_field rfl 48 (.tmp 12) 1 rfl (.pointer (some ⟨gi, 0, none⟩)) (by rw [E]; rfl) (.pointer (some ⟨gi, 1, none⟩)) (fun w => by first | (go_simp; done) | (go_simp; rfl)) (fun d hd => by cases hd; rw [E]; rfl) h
  · exact fun b w' _ _ h => may_load h 2 gi #[.int .u8 op, .int .u8 oA, .int .u8 oB, .int .u8 oC, .int .i32 im] 48 rfl rfl 5 (.tmp 62) rfl 1 (by rw [E]; rfl) (by kernel_rfl) (.int .u8 oA) rfl (fun d hd => by cases hd; rw [E]; rfl) h
  · exact fun b w' _ _ h => may_field rfl 25 (.tmp 14) 0 rfl (.pointer (some ⟨gw, 0, none⟩)) (by rw [E]; rfl) (.pointer (some ⟨gw, 0, none⟩)) (fun w => by first | (go_simp; done) | (go_simp; rfl)) (fun d hd => by cases hd; rw [E]; rfl) h
  · exact fun b w' _ _ h => may_index rfl 23 (.tmp 64) (.tmp 63) rfl (.pointer (some ⟨gw, 0, none⟩)) (.int .u8 oA) (by rw [E]; rfl) (by rw [E]; rfl) (.pointer (some ⟨gw, oA.toNat, none⟩)) (fun w => idx23 gw .u8 oA hA.1 hA.2 w) (fun d hd => by cases hd; rw [E]; rfl) h
  · exact fun b w' _ _ h => may_load h 0 gw (cpv (R.set 0 0) P1) 25 rfl rfl 22 (.tmp 65) rfl oA.toNat (by rw [E]; rfl) (by kernel_rfl) (.int .u32 ra) HA.out (fun d hd => by cases hd; rw [E]; rfl) h
  · exact fun b w' _ _ h => may_field rfl 48 (.tmp 12) 2 rfl (.pointer (some ⟨gi, 0, none⟩)) (by rw [E]; rfl) (.pointer (some ⟨gi, 2, none⟩)) (fun w => by first | (go_simp; done) | (go_simp; rfl)) (fun d hd => by cases hd; rw [E]; rfl) h
  · exact fun b w' _ _ h => may_load h 2 gi #[.int .u8 op, .int .u8 oA, .int .u8 oB, .int .u8 oC, .int .i32 im] 48 rfl rfl 5 (.tmp 67) rfl 2 (by rw [E]; rfl) (by kernel_rfl) (.int .u8 oB) rfl (fun d hd => by cases hd; rw [E]; rfl) h
  · exact fun b w' _ _ h => may_field rfl 25 (.tmp 14) 0 rfl (.pointer (some ⟨gw, 0, none⟩)) (by rw [E]; rfl) (.pointer (some ⟨gw, 0, none⟩)) (fun w => by first | (go_simp; done) | (go_simp; rfl)) (fun d hd => by cases hd; rw [E]; rfl) h
  · exact fun b w' _ _ h => may_index rfl 23 (.tmp 69) (.tmp 68) rfl (.pointer (some ⟨gw, 0, none⟩)) (.int .u8 oB) (by rw [E]; rfl) (by rw [E]; rfl) (.pointer (some ⟨gw, oB.toNat, none⟩)) (fun w => idx23 gw .u8 oB hB.1 hB.2 w) (fun d hd => by cases hd; rw [E]; rfl) h
  · exact fun b w' _ _ h => may_load h 0 gw (cpv (R.set 0 0) P1) 25 rfl rfl 22 (.tmp 70) rfl oB.toNat (by rw [E]; rfl) (by kernel_rfl) (.int .u32 rb) HBr.out (fun d hd => by cases hd; rw [E]; rfl) h
  · exact fun b w' _ _ h => may_field rfl 48 (.tmp 12) 4 rfl (.pointer (some ⟨gi, 0, none⟩)) (by rw [E]; rfl) (.pointer (some ⟨gi, 4, none⟩)) (fun w => by first | (go_simp; done) | (go_simp; rfl)) (fun d hd => by cases hd; rw [E]; rfl) h
  · exact fun b w' _ _ h => may_load h 2 gi #[.int .u8 op, .int .u8 oA, .int .u8 oB, .int .u8 oC, .int .i32 im] 48 rfl rfl 21 (.tmp 72) rfl 4 (by rw [E]; rfl) (by kernel_rfl) (.int .i32 im) rfl (fun d hd => by cases hd; rw [E]; rfl) h
  · exact fun b w' _ _ h => may_convert rfl 21 22 (.tmp 73) rfl (.int .i32 im) (by rw [E]; rfl) (.int .u32 iw) (fun w => conv2122 im iw HI.out w) (fun d hd => by cases hd; rw [E]; rfl) h
  · exact fun b w' _ _ h => may_move rfl _ (by first | exact .inl rfl | exact .inr rfl) (.int .u32 ra) (by rw [E]; rfl) (fun d hd => by cases hd; rw [E]; rfl) h
  · exact fun b w' _ _ h => may_move rfl _ (by first | exact .inl rfl | exact .inr rfl) (.int .u32 rb) (by rw [E]; rfl) (fun d hd => by cases hd; rw [E]; rfl) h
  · exact fun b w' _ _ h => may_move rfl _ (by first | exact .inl rfl | exact .inr rfl) (.int .u32 iw) (by rw [E]; rfl) (fun d hd => by cases hd; rw [E]; rfl) h
  intro b w_ hall h
  clear HS
  have HS := Aside0.mk h
  clear h hall
  simp only [puts]
  go_wp2_with (first | ((with_reducible refine gate_dst (N := 77) rfl ?_); refine xl_bin rfl .add 22 22 (.tmp 75) (.tmp 76) rfl (.int .u32 rb) (.int .u32 iw) rfl rfl (.int .u32 at1) rfl (fun w => run_add 22 .u32 rb iw at1 HT.out w) ?_) | ((with_reducible refine gate_dst (N := 19) rfl ?_); refine xl_box HS.out rfl 19 rfl #[.int .i64 0, .int .u32 0] 35 ?hr ?_; (case hr => first | (go_simp; done) | (go_simp; rfl)); intro gv w_ hs_; clear HS; have HS := Aside0.mk hs_; clear hs_) | ((with_reducible refine gate_store (t := 35) (p := 19) rfl ?_); refine xl_storeRow HS.out 0 gv #[.int .i64 0, .int .u32 0] 35 rfl rfl rfl 35 (.tmp 19) (.tmp 78) rfl rfl #[.int .i64 0, .int .u32 0] rfl (by kernel_rfl) rfl (by simp [Value.oneCell']) ?_; intro w_ hs_; clear HS; have HS := Aside0.mk hs_; clear hs_) | ((with_reducible refine gate_dst (N := 80) rfl ?_); refine xl_load HS.out 3 gi #[.int .u8 op, .int .u8 oA, .int .u8 oB, .int .u8 oC, .int .i32 im] 48 rfl rfl 5 (.tmp 79) rfl 0 rfl (by kernel_rfl) (.int .u8 op) rfl ?_))
  refine region_det [(86, (.pointer (some ⟨gi, 1, none⟩))), (87, .int .u8 oA), (88, .int .u8 op), (89, .func (.func (rkId op)) #[] #[]), (90, .int .u32 rb), (91, (.pointer (some ⟨gi, 3, none⟩))), (92, .int .u8 oC), (93, (.pointer (some ⟨gw, 0, none⟩))), (94, (.pointer (some ⟨gw, oC.toNat, none⟩))), (95, .int .u32 rc), (96, .int .u32 v), (97, (.pointer (some ⟨gn, 0, none⟩))), (98, (.pointer (some ⟨gn, oA.toNat, none⟩)))] (fun b w' => St w.heap.size w w' [(some gv, #[.int .i64 0, .int .u32 0], 35), (some gw, cpv (R.set 0 0) P1, 25), (some gn, bif b 13 then cpv ((R.set 0 0).set oA.toNat v) P1 else cpv (R.set 0 0) P1, 25), (some gi, #[.int .u8 op, .int .u8 oA, .int .u8 oB, .int .u8 oC, .int .i32 im], 48), (v5.ownBlock, c5, 9), (some ge, #[.int .i64 0, .int .u32 0], 35), (some gr, (Array.replicate 17 (.int .u32 0)), 25), (some gs, spv s, 29), (some gc, cpv R pc, 25)]) (by kernel_rfl) (by kernel_rfl) (by kernel_rfl) (by kernel_rfl) HS.out.drew (fun af E => ⟨?_, ?_, ?_, ?_, ?_, ?_, ?_, ?_, ?_, ?_, ?_, ?_, ?_, ?_, trivial⟩) ?_
  · exact fun b w' _ _ h => may_field rfl 48 (.tmp 12) 1 rfl (.pointer (some ⟨gi, 0, none⟩)) (by rw [E]; rfl) (.pointer (some ⟨gi, 1, none⟩)) (fun w => by first | (go_simp; done) | (go_simp; rfl)) (fun d hd => by cases hd; rw [E]; rfl) h
  · exact fun b w' _ _ h => may_load h 3 gi #[.int .u8 op, .int .u8 oA, .int .u8 oB, .int .u8 oC, .int .i32 im] 48 rfl rfl 5 (.tmp 86) rfl 1 (by rw [E]; rfl) (by kernel_rfl) (.int .u8 oA) rfl (fun d hd => by cases hd; rw [E]; rfl) h
  · exact fun b w' _ _ h => may_move rfl _ (by first | exact .inl rfl | exact .inr rfl) (.int .u8 op) (by rw [E]; rfl) (fun d hd => by cases hd; rw [E]; rfl) h
  · exact fun b w' _ _ h => may_goes rfl 15 _ Tryd.func15 (by kernel_rfl) rfl _ _ rfl #[.int .u8 op] (by rw [E]; (try simp only [List.map_toArray, List.map_cons, List.map_nil]); rfl) (.func (.func (rkId op)) #[] #[]) (fun d hd => by cases hd; rw [E]; rfl) ((reckon_calls op w').mono (fun e w2 he => ⟨he.1, (by obtain ⟨n_, hn_⟩ := he.2.out; rw [hn_]; exact h.drewN n_)⟩))
  · exact fun b w' _ _ h => may_move rfl _ (by first | exact .inl rfl | exact .inr rfl) (.int .u32 rb) (by rw [E]; rfl) (fun d hd => by cases hd; rw [E]; rfl) h
  · exact fun b w' _ _ h => may_field rfl 48 (.tmp 12) 3 rfl (.pointer (some ⟨gi, 0, none⟩)) (by rw [E]; rfl) (.pointer (some ⟨gi, 3, none⟩)) (fun w => by first | (go_simp; done) | (go_simp; rfl)) (fun d hd => by cases hd; rw [E]; rfl) h
  · exact fun b w' _ _ h => may_load h 3 gi #[.int .u8 op, .int .u8 oA, .int .u8 oB, .int .u8 oC, .int .i32 im] 48 rfl rfl 5 (.tmp 91) rfl 3 (by rw [E]; rfl) (by kernel_rfl) (.int .u8 oC) rfl (fun d hd => by cases hd; rw [E]; rfl) h
  · exact fun b w' _ _ h => may_field rfl 25 (.tmp 14) 0 rfl (.pointer (some ⟨gw, 0, none⟩)) (by rw [E]; rfl) (.pointer (some ⟨gw, 0, none⟩)) (fun w => by first | (go_simp; done) | (go_simp; rfl)) (fun d hd => by cases hd; rw [E]; rfl) h
  · exact fun b w' _ _ h => may_index rfl 23 (.tmp 93) (.tmp 92) rfl (.pointer (some ⟨gw, 0, none⟩)) (.int .u8 oC) (by rw [E]; rfl) (by rw [E]; rfl) (.pointer (some ⟨gw, oC.toNat, none⟩)) (fun w => idx23 gw .u8 oC hC.1 hC.2 w) (fun d hd => by cases hd; rw [E]; rfl) h
  · exact fun b w' _ _ h => may_load h 1 gw (cpv (R.set 0 0) P1) 25 rfl rfl 22 (.tmp 94) rfl oC.toNat (by rw [E]; rfl) (by kernel_rfl) (.int .u32 rc) HCr.out (fun d hd => by cases hd; rw [E]; rfl) h
  · exact fun b w' _ _ h => (rk_fn op).elim (fun fn hfn => may_goesV rfl (rkId op) fn hfn.1 hfn.2.1 hfn.2.2 89 _ _ rfl (by rw [E]; rfl) #[.int .u32 rb, .int .u32 rc] (by rw [E]; (try simp only [List.map_toArray, List.map_cons, List.map_nil]); rfl) (.int .u32 v) (fun d hd => by cases hd; rw [E]; rfl) ((HK.out w').mono (fun e w2 he => ⟨he.1, (by obtain ⟨n_, hn_⟩ := he.2.out; rw [hn_]; exact h.drewN n_)⟩)))
  · exact fun b w' _ _ h => may_field rfl 25 (.tmp 13) 0 rfl (.pointer (some ⟨gn, 0, none⟩)) (by rw [E]; rfl) (.pointer (some ⟨gn, 0, none⟩)) (fun w => by first | (go_simp; done) | (go_simp; rfl)) (fun d hd => by cases hd; rw [E]; rfl) h
  · exact fun b w' _ _ h => may_index rfl 23 (.tmp 97) (.tmp 87) rfl (.pointer (some ⟨gn, 0, none⟩)) (.int .u8 oA) (by rw [E]; rfl) (by rw [E]; rfl) (.pointer (some ⟨gn, oA.toNat, none⟩)) (fun w => idx23 gn .u8 oA hA.1 hA.2 w) (fun d hd => by cases hd; rw [E]; rfl) h
  · exact fun b w' hb_ hn_ h => may_store h 2 gn _ 25 rfl rfl rfl 22 (.tmp 98) (.tmp 96) rfl oA.toNat (by rw [E]; rfl) (.int .u32 v) (by rw [E]; rfl) (by kernel_rfl) rfl (by cases b 13 <;> simp [cpv_size P1 hR1, cpv_size P1 hR2] <;> omega) (fun w2 h2 => by rw [hb_] at h2; simp only [cond_false, cpv_set P1 hR1 (show oA.toNat < 16 by omega)] at h2; exact h2)
  intro b w_ hall h
  rw [hall 13 (by decide)] at h
  simp only [cond_true] at h
  clear HS
  have HS := Aside0.mk h
  clear h hall
  simp only [puts]
  go_wp2_with (first | ((with_reducible refine gate_dst (N := 204) rfl ?_); refine xl_index rfl 23 (.tmp 203) (.const (.int .i64 0)) rfl (.pointer (some ⟨gn, 0, none⟩)) (.int .i64 0) rfl rfl (.pointer (some ⟨gn, 0, none⟩)) (fun w => idx23 gn .i64 0 (by decide) (by decide) w) ?_) | ((with_reducible refine gate_store (t := 22) (p := 204) rfl ?_); refine xl_store HS.out 2 gn (cpv ((R.set 0 0).set oA.toNat v) P1) 25 rfl rfl rfl 22 (.tmp 204) (.const (.int .u32 0)) rfl 0 rfl (.int .u32 0) rfl (by kernel_rfl) rfl (by simp [cpv_size P1 hR2]) ?_; intro w_ hs_; rw [cpv_set P1 hR2 (by decide)] at hs_; clear HS; have HS := Aside0.mk hs_; clear hs_))
  refine region_det [(205, .agg (cpv (((R.set 0 0).set oA.toNat v).set 0 0) P1)), (206, v5), (207, .agg #[.int .i64 0, .int .u32 0]), (7, v5)] (fun b w' => St w.heap.size w w' [(some gv, #[.int .i64 0, .int .u32 0], 35), (some gw, cpv (R.set 0 0) P1, 25), (some gn, cpv (((R.set 0 0).set oA.toNat v).set 0 0) P1, 25), (some gi, #[.int .u8 op, .int .u8 oA, .int .u8 oB, .int .u8 oC, .int .i32 im], 48), (v5.ownBlock, c5, 9), (some ge, bif b 5 then #[.int .i64 0, .int .u32 0] else #[.int .i64 0, .int .u32 0], 35), (some gr, bif b 3 then cpv (((R.set 0 0).set oA.toNat v).set 0 0) P1 else (Array.replicate 17 (.int .u32 0)), 25), (some gs, spv s, 29), (some gc, cpv R pc, 25)]) (by kernel_rfl) (by kernel_rfl) (by kernel_rfl) (by kernel_rfl) HS.out.drew (fun af E => ⟨?_, ?_, ?_, ?_, ?_, ?_, trivial⟩) ?_
  · exact fun b w' _ _ h => may_loadRow h 2 gn (cpv (((R.set 0 0).set oA.toNat v).set 0 0) P1) 25 rfl rfl 25 (.tmp 13) rfl (by rw [E]; rfl) (by kernel_rfl) (cpu_info P1 (show (((R.set 0 0).set oA.toNat v).set 0 0).length = 16 by simp [hR2])) (fun d hd => by cases hd; rw [E]; rfl) h
  · exact fun b w' _ _ h => may_move rfl _ (by first | exact .inl rfl | exact .inr rfl) v5 (by rw [E]; rfl) (fun d hd => by cases hd; rw [E]; rfl) h
  · exact fun b w' _ _ h => may_loadRow h 0 gv #[.int .i64 0, .int .u32 0] 35 rfl rfl 35 (.tmp 19) rfl (by rw [E]; rfl) (by kernel_rfl) (by kernel_rfl) (fun d hd => by cases hd; rw [E]; rfl) h
  · exact fun b w' _ _ h => may_storeRow h 6 gr _ 25 rfl rfl rfl 25 (.tmp 6) (.tmp 205) rfl (by rw [E]; rfl) (cpv (((R.set 0 0).set oA.toNat v).set 0 0) P1) (by rw [E]; rfl) (cpu_info P1 (show (((R.set 0 0).set oA.toNat v).set 0 0).length = 16 by simp [hR2])) (by cases b 3 <;> simp [cpv_size P1 (show (((R.set 0 0).set oA.toNat v).set 0 0).length = 16 by simp [hR2])]) (cpv_one (((R.set 0 0).set oA.toNat v).set 0 0) P1) (fun _ h => h)
  · exact fun b w' _ _ h => may_move rfl _ (by first | exact .inl rfl | exact .inr rfl) v5 (by rw [E]; rfl) (fun d hd => by cases hd; rw [E]; rfl) h
  · exact fun b w' _ _ h => may_storeRow h 5 ge _ 35 rfl rfl rfl 35 (.tmp 8) (.tmp 207) rfl (by rw [E]; rfl) #[.int .i64 0, .int .u32 0] (by rw [E]; rfl) (by kernel_rfl) (by cases b 5 <;> rfl) (by simp [Value.oneCell']) (fun _ h => h)
  intro b w_ hall h
  rw [hall 3 (by decide)] at h
  rw [hall 5 (by decide)] at h
  simp only [cond_true] at h
  clear HS
  have HS := Aside0.mk h
  clear h hall
  simp only [puts]
  go_wp2
  refine bodyPost_ret (v := .tuple #[.agg (cpv (((R.set 0 0).set oA.toNat v).set 0 0) P1), v5, .agg #[.int .i64 0, .int .u32 0]]) (results_list (rs := [.cell 6 25, .tmp 7, .cell 8 35]) (vs := [.agg (cpv (((R.set 0 0).set oA.toNat v).set 0 0) P1), v5, .agg #[.int .i64 0, .int .u32 0]]) rfl (by simp) (.cell gr 25 (cpv (((R.set 0 0).set oA.toNat v).set 0 0) P1) (0, 0) _ rfl (HS.out.blk (n := 6) rfl) Tryd.underlying25 rfl (cpu_info P1 (show (((R.set 0 0).set oA.toNat v).set 0 0).length = 16 by simp [hR2])) (.tmp (.cell ge 35 _ (0, 0) _ rfl (HS.out.blk (n := 5) rfl) Tryd.underlying35 rfl (by kernel_rfl) .nil)))) rfl ?_
  exact ⟨v5, rfl, HO.out _ (fun g hg => (HS.out.own _ (List.mem_of_getElem? (i := 4) rfl) g hg).2), HS.out.below⟩
end Go.Proofs.YtiklcpacbclpnaaDoor.P
end
section
set_option linter.unusedVariables false
set_option linter.unusedSimpArgs false
namespace Go.Proofs.YtiklcpacbclpnaaDoor.P
open Go.RowKit Go.Proofs.YtiklcpacbclpnaaDoorW.PrintWords Go.Proofs.YtiklcpacbclpnaaDoorW.PrintLast Go.Proofs.YtiklcpacbclpnaaDoorW.PrintMore
attribute [local go_sem] isSome_setCell_eq
set_option maxHeartbeats 8000000 in
set_option maxRecDepth 100000 in
theorem step_number (G : ByteArray → Int) (hG : ∀ b : ByteArray, b.size ≤ 8 → ∃ k, num_Get.f k b = some (G b)) (R : List Int) (pc : Int) (A : Option Addr) (c : Nat) (l : List ByteArray) (s : List Pg) (w : World) (hR : R.length = 16) (hpc : 0 ≤ pc) (hr : Kd.C Kd.string w A l.length l) (hc : l.length ≤ c) (hs : s.length = 16) (hl : l.length ≤ 100000) (r40 : Int) (hf : loadT G l s pc 4 = (r40, true)) (kd : Nat) (op oA oB oC im : Int) (hd : isa_Dec.f kd r40 = some (op, oA, oB, oC, im, true)) (hA : 0 ≤ oA ∧ oA < 16) (hB : 0 ≤ oB ∧ oB < 16) (P1 iw at1 ra rb : Int) (hP : IntKind.u32.wrap (pc + 4) = P1) (hI : IntKind.u32.wrap im = iw) (hT : IntKind.u32.wrap (rb + iw) = at1) (hra : (R.set 0 0).getD oA.toNat 0 = ra) (hrb : (R.set 0 0).getD oB.toNat 0 = rb) (ho : 14 ≤ op ∧ op ≤ 18) (v : Int) (c13 : decide (op ≤ 13) = false) (c18 : decide (op ≤ 18) = true) (hk : ∀ w, Calls Tryd.prog (rkId (alikeId op)) #[.int .u32 rb, .int .u32 iw] w fun e w' => e = .returned (.int .u32 v) ∧ Drawn0 w w') :
    Calls Tryd.prog 7 #[.agg (cpv R pc), .agg (spv s), .slice A l.length c] w (StepEnds w (((R.set 0 0).set oA.toNat v).set 0 0) P1 l l 0 0) := by
  have HS := Aside0.mk (St.start w)
  have HR := Aside0.mk hr
  have HC := Aside0.mk hc
  have HL := Aside0.mk hl
  have HD := Aside0.mk hd
  have L4 := Aside0.mk (fun (w : World) (hr : Kd.C Kd.string w A l.length l) => load_calls G hG A c l s pc 4 w hr hc hs hpc (Or.inr rfl))
  rw [hf] at L4
  dsimp only at L4
  clear hr hc hl hd hf
  have hu25 := Tryd.underlying25
  have hR1 : (R.set 0 0).length = 16 := by simp [hR]
  have HP := Aside0.mk hP
  have HI := Aside0.mk hI
  have HT := Aside0.mk hT
  have HA : Aside0 ((cpv (R.set 0 0) P1)[oA.toNat]? = some (.int .u32 ra)) := ⟨by rw [cpv_at P1 hR1 (by omega), hra]⟩
  have HBr : Aside0 ((cpv (R.set 0 0) P1)[oB.toNat]? = some (.int .u32 rb)) := ⟨by rw [cpv_at P1 hR1 (by omega), hrb]⟩
  have HRA := Aside0.mk hra
  have HRB := Aside0.mk hrb
  clear hP hI hT hra hrb
  have HK := Aside0.mk hk
  clear hk
  have hR2 : ((R.set 0 0).set oA.toNat v).length = 16 := by simp [hR]
  go_enter Tryd.func7, Tryd.ntmps7
  go_wp2_with (first | ((with_reducible refine gate_dst (N := 3) rfl ?_); refine xl_box HS.out rfl 3 rfl (cpv R pc) 25 ?hr ?_; (case hr => first | (go_simp; done) | (go_simp; rfl)); intro gc w_ hs_; clear HS; have HS := Aside0.mk hs_; clear hs_) | ((with_reducible refine gate_dst (N := 4) rfl ?_); refine xl_box HS.out rfl 4 rfl (spv s) 29 ?hr ?_; (case hr => first | (go_simp; done) | (go_simp; rfl)); intro gs w_ hs_; clear HS; have HS := Aside0.mk hs_; clear hs_) | ((with_reducible refine gate_dst (N := 6) rfl ?_); refine xl_box HS.out rfl 6 rfl (Array.replicate 17 (.int .u32 0)) 25 ?hr ?_; (case hr => first | (go_simp; done) | (go_simp; rfl)); intro gr w_ hs_; clear HS; have HS := Aside0.mk hs_; clear hs_) | ((with_reducible refine gate_dst (N := 8) rfl ?_); refine xl_box HS.out rfl 8 rfl #[.int .i64 0, .int .u32 0] 35 ?hr ?_; (case hr => first | (go_simp; done) | (go_simp; rfl)); intro ge w_ hs_; clear HS; have HS := Aside0.mk hs_; clear hs_) | ((with_reducible refine gate_dst (N := 27) rfl ?_); refine Kd.R_append_row Value.string ByteArray.empty (h1 := fun _ => rfl) (w0 := w) w.heap.size rfl (.const (.slice none 0 0)) (.tmp 26) 30 9 (.string ByteArray.empty) 16 rfl Tryd.underlying30 (by kernel_rfl) rfl (by decide) (.slice none 0 0) [] l A l.length c (fun _ => True) rfl rfl (fun _ _ => trivial) (Kd.R_nil Kd.string 9 _ w.heap.size _) (Kd.C_below HR.out HS.out.below) HS.out.below HS.out.low (by have := HL.out; simp only [List.length_nil]; omega) ?_; intro v5 w5 ho hb hgr hfr; obtain ⟨c5, hs5, hk5⟩ := same_add HS.out ho hgr hfr; clear HS; have HS := Aside0.mk hs5; have HO := Aside0.mk hk5; clear hs5 hk5 ho hb hgr hfr) | ((with_reducible refine gate_dst (N := 30) rfl ?_); refine xl_loadRow HS.out 3 gs (spv s) 29 rfl rfl 29 (.tmp 4) rfl rfl (by kernel_rfl) (space_info hs) ?_) | ((with_reducible refine gate_dst (N := 32) rfl ?_); refine xl_load HS.out 4 gc (cpv R pc) 25 rfl rfl 22 (.tmp 31) rfl 16 rfl (by kernel_rfl) (.int .u32 pc) (cpv_pc pc hR) ?_) | ((with_reducible refine gate_callee (f := 13) rfl ?_); refine goesL_ (some 33) rfl rfl Tryd.func13 (by kernel_rfl) rfl #[.slice A l.length c, .agg (spv s), .int .u32 pc, .int .i64 4] rfl (by (try simp only [List.map_toArray, List.map_cons, List.map_nil]); first | done | rfl) ?_; refine (L4.out _ (Kd.C_below HR.out HS.out.below)).mono ?_; rintro e w_ ⟨rfl, hb_⟩; refine ⟨_, rfl, ?_⟩; have hs_ := HS.out.later hb_; clear HS; have HS := Aside0.mk hs_; clear hs_; clear hb_) | ((with_reducible refine gate_callee (f := 14) rfl ?_); refine goesL_ (some 45) rfl rfl Tryd.func14 (by kernel_rfl) rfl #[.int .u32 r40] rfl (by (try simp only [List.map_toArray, List.map_cons, List.map_nil]); first | done | rfl) ?_; refine (isa_Dec.calls kd r40 op oA oB oC im true _ HD.out).mono ?_; rintro e w_ ⟨rfl, hb_⟩; refine ⟨_, rfl, ?_⟩; have hs_ := HS.out.later hb_; clear HS; have HS := Aside0.mk hs_; clear hs_; clear hb_) | ((with_reducible refine gate_dst (N := 12) rfl ?_); refine xl_box HS.out rfl 12 rfl #[.int .u8 0, .int .u8 0, .int .u8 0, .int .u8 0, .int .i32 0] 48 ?hr ?_; (case hr => first | (go_simp; done) | (go_simp; rfl)); intro gi w_ hs_; clear HS; have HS := Aside0.mk hs_; clear hs_) | ((with_reducible refine gate_store (t := 48) (p := 12) rfl ?_); refine xl_storeRow HS.out 0 gi #[.int .u8 0, .int .u8 0, .int .u8 0, .int .u8 0, .int .i32 0] 48 rfl rfl rfl 48 (.tmp 12) (.tmp 46) rfl rfl #[.int .u8 op, .int .u8 oA, .int .u8 oB, .int .u8 oC, .int .i32 im] rfl (by kernel_rfl) rfl (by simp [Value.oneCell']) ?_; intro w_ hs_; clear HS; have HS := Aside0.mk hs_; clear hs_) | ((with_reducible refine gate_dst (N := 54) rfl ?_); refine xl_loadRow HS.out 5 gc (cpv R pc) 25 rfl rfl 25 (.tmp 3) rfl rfl (by kernel_rfl) (cpu_info pc hR) ?_) | ((with_reducible refine gate_dst (N := 13) rfl ?_); refine xl_box HS.out rfl 13 rfl (Array.replicate 17 (.int .u32 0)) 25 ?hr ?_; (case hr => first | (go_simp; done) | (go_simp; rfl)); intro gn w_ hs_; clear HS; have HS := Aside0.mk hs_; clear hs_) | ((with_reducible refine gate_store (t := 25) (p := 13) rfl ?_); refine xl_storeRow HS.out 0 gn (Array.replicate 17 (.int .u32 0)) 25 rfl rfl rfl 25 (.tmp 13) (.tmp 54) rfl rfl (cpv R pc) rfl (cpu_info pc hR) (by simp [cpv_size pc hR]) (cpv_one R pc) ?_; intro w_ hs_; clear HS; have HS := Aside0.mk hs_; clear hs_) | ((with_reducible refine gate_dst (N := 56) rfl ?_); refine xl_index rfl 23 (.tmp 55) (.const (.int .i64 0)) rfl (.pointer (some ⟨gn, 0, none⟩)) (.int .i64 0) rfl rfl (.pointer (some ⟨gn, 0, none⟩)) (fun w => idx23 gn .i64 0 (by decide) (by decide) w) ?_) | ((with_reducible refine gate_store (t := 22) (p := 56) rfl ?_); refine xl_store HS.out 0 gn (cpv R pc) 25 rfl rfl rfl 22 (.tmp 56) (.const (.int .u32 0)) rfl 0 rfl (.int .u32 0) rfl (by kernel_rfl) rfl (by simp [cpv_size pc hR]) ?_; intro w_ hs_; rw [cpv_set pc hR (by decide)] at hs_; clear HS; have HS := Aside0.mk hs_; clear hs_) | ((with_reducible refine gate_dst (N := 58) rfl ?_); refine xl_load HS.out 0 gn (cpv (R.set 0 0) pc) 25 rfl rfl 22 (.tmp 57) rfl 16 rfl (by kernel_rfl) (.int .u32 pc) (cpv_pc pc hR1) ?_) | ((with_reducible refine gate_dst (N := 59) rfl ?_); refine xl_bin rfl .add 22 22 (.tmp 58) (.const (.int .u32 4)) rfl (.int .u32 pc) (.int .u32 4) rfl rfl (.int .u32 P1) rfl (fun w => run_add 22 .u32 pc 4 P1 HP.out w) ?_) | ((with_reducible refine gate_store (t := 22) (p := 60) rfl ?_); refine xl_store HS.out 0 gn (cpv (R.set 0 0) pc) 25 rfl rfl rfl 22 (.tmp 60) (.tmp 59) rfl 16 rfl (.int .u32 P1) rfl (by kernel_rfl) rfl (by simp [cpv_size pc hR1]) ?_; intro w_ hs_; rw [cpv_set16 pc hR1] at hs_; clear HS; have HS := Aside0.mk hs_; clear hs_) | ((with_reducible refine gate_dst (N := 61) rfl ?_); refine xl_loadRow HS.out 0 gn (cpv (R.set 0 0) P1) 25 rfl rfl 25 (.tmp 13) rfl rfl (by kernel_rfl) (cpu_info P1 hR1) ?_) | ((with_reducible refine gate_dst (N := 14) rfl ?_); refine xl_box HS.out rfl 14 rfl (Array.replicate 17 (.int .u32 0)) 25 ?hr ?_; (case hr => first | (go_simp; done) | (go_simp; rfl)); intro gw w_ hs_; clear HS; have HS := Aside0.mk hs_; clear hs_) | ((with_reducible refine gate_store (t := 25) (p := 14) rfl ?_); refine xl_storeRow HS.out 0 gw (Array.replicate 17 (.int .u32 0)) 25 rfl rfl rfl 25 (.tmp 14) (.tmp 61) rfl rfl (cpv (R.set 0 0) P1) rfl (cpu_info P1 hR1) (by simp [cpv_size P1 hR1]) (cpv_one (R.set 0 0) P1) ?_; intro w_ hs_; clear HS; have HS := Aside0.mk hs_; clear hs_))
  refine region_det [(62, (.pointer (some ⟨gi, 1, none⟩))), (63, .int .u8 oA), (64, (.pointer (some ⟨gw, 0, none⟩))), (65, (.pointer (some ⟨gw, oA.toNat, none⟩))), (66, .int .u32 ra), (67, (.pointer (some ⟨gi, 2, none⟩))), (68, .int .u8 oB), (69, (.pointer (some ⟨gw, 0, none⟩))), (70, (.pointer (some ⟨gw, oB.toNat, none⟩))), (71, .int .u32 rb), (72, (.pointer (some ⟨gi, 4, none⟩))), (73, .int .i32 im), (74, .int .u32 iw), (15, .int .u32 ra), (16, .int .u32 rb), (17, .int .u32 iw)] (fun b w' => St w.heap.size w w' [(some gw, cpv (R.set 0 0) P1, 25), (some gn, cpv (R.set 0 0) P1, 25), (some gi, #[.int .u8 op, .int .u8 oA, .int .u8 oB, .int .u8 oC, .int .i32 im], 48), (v5.ownBlock, c5, 9), (some ge, #[.int .i64 0, .int .u32 0], 35), (some gr, (Array.replicate 17 (.int .u32 0)), 25), (some gs, spv s, 29), (some gc, cpv R pc, 25)]) (by kernel_rfl) (by kernel_rfl) (by kernel_rfl) (by kernel_rfl) HS.out.drew (fun af E => ⟨?_, ?_, ?_, ?_, ?_, ?_, ?_, ?_, ?_, ?_, ?_, ?_, ?_, ?_, ?_, ?_, trivial⟩) ?_
  · exact fun b w' _ _ h => may_field rfl 48 (.tmp 12) 1 rfl (.pointer (some ⟨gi, 0, none⟩)) (by rw [E]; rfl) (.pointer (some ⟨gi, 1, none⟩)) (fun w => by first | (go_simp; done) | (go_simp; rfl)) (fun d hd => by cases hd; rw [E]; rfl) h
  · exact fun b w' _ _ h => may_load h 2 gi #[.int .u8 op, .int .u8 oA, .int .u8 oB, .int .u8 oC, .int .i32 im] 48 rfl rfl 5 (.tmp 62) rfl 1 (by rw [E]; rfl) (by kernel_rfl) (.int .u8 oA) rfl (fun d hd => by cases hd; rw [E]; rfl) h
  · exact fun b w' _ _ h => may_field rfl 25 (.tmp 14) 0 rfl (.pointer (some ⟨gw, 0, none⟩)) (by rw [E]; rfl) (.pointer (some ⟨gw, 0, none⟩)) (fun w => by first | (go_simp; done) | (go_simp; rfl)) (fun d hd => by cases hd; rw [E]; rfl) h
  · exact fun b w' _ _ h => may_index rfl 23 (.tmp 64) (.tmp 63) rfl (.pointer (some ⟨gw, 0, none⟩)) (.int .u8 oA) (by rw [E]; rfl) (by rw [E]; rfl) (.pointer (some ⟨gw, oA.toNat, none⟩)) (fun w => idx23 gw .u8 oA hA.1 hA.2 w) (fun d hd => by cases hd; rw [E]; rfl) h
  · exact fun b w' _ _ h => may_load h 0 gw (cpv (R.set 0 0) P1) 25 rfl rfl 22 (.tmp 65) rfl oA.toNat (by rw [E]; rfl) (by kernel_rfl) (.int .u32 ra) HA.out (fun d hd => by cases hd; rw [E]; rfl) h
  · exact fun b w' _ _ h => may_field rfl 48 (.tmp 12) 2 rfl (.pointer (some ⟨gi, 0, none⟩)) (by rw [E]; rfl) (.pointer (some ⟨gi, 2, none⟩)) (fun w => by first | (go_simp; done) | (go_simp; rfl)) (fun d hd => by cases hd; rw [E]; rfl) h
  · exact fun b w' _ _ h => may_load h 2 gi #[.int .u8 op, .int .u8 oA, .int .u8 oB, .int .u8 oC, .int .i32 im] 48 rfl rfl 5 (.tmp 67) rfl 2 (by rw [E]; rfl) (by kernel_rfl) (.int .u8 oB) rfl (fun d hd => by cases hd; rw [E]; rfl) h
  · exact fun b w' _ _ h => may_field rfl 25 (.tmp 14) 0 rfl (.pointer (some ⟨gw, 0, none⟩)) (by rw [E]; rfl) (.pointer (some ⟨gw, 0, none⟩)) (fun w => by first | (go_simp; done) | (go_simp; rfl)) (fun d hd => by cases hd; rw [E]; rfl) h
  · exact fun b w' _ _ h => may_index rfl 23 (.tmp 69) (.tmp 68) rfl (.pointer (some ⟨gw, 0, none⟩)) (.int .u8 oB) (by rw [E]; rfl) (by rw [E]; rfl) (.pointer (some ⟨gw, oB.toNat, none⟩)) (fun w => idx23 gw .u8 oB hB.1 hB.2 w) (fun d hd => by cases hd; rw [E]; rfl) h
  · exact fun b w' _ _ h => may_load h 0 gw (cpv (R.set 0 0) P1) 25 rfl rfl 22 (.tmp 70) rfl oB.toNat (by rw [E]; rfl) (by kernel_rfl) (.int .u32 rb) HBr.out (fun d hd => by cases hd; rw [E]; rfl) h
  · exact fun b w' _ _ h => may_field rfl 48 (.tmp 12) 4 rfl (.pointer (some ⟨gi, 0, none⟩)) (by rw [E]; rfl) (.pointer (some ⟨gi, 4, none⟩)) (fun w => by first | (go_simp; done) | (go_simp; rfl)) (fun d hd => by cases hd; rw [E]; rfl) h
  · exact fun b w' _ _ h => may_load h 2 gi #[.int .u8 op, .int .u8 oA, .int .u8 oB, .int .u8 oC, .int .i32 im] 48 rfl rfl 21 (.tmp 72) rfl 4 (by rw [E]; rfl) (by kernel_rfl) (.int .i32 im) rfl (fun d hd => by cases hd; rw [E]; rfl) h
  · exact fun b w' _ _ h => may_convert rfl 21 22 (.tmp 73) rfl (.int .i32 im) (by rw [E]; rfl) (.int .u32 iw) (fun w => conv2122 im iw HI.out w) (fun d hd => by cases hd; rw [E]; rfl) h
  · exact fun b w' _ _ h => may_move rfl _ (by first | exact .inl rfl | exact .inr rfl) (.int .u32 ra) (by rw [E]; rfl) (fun d hd => by cases hd; rw [E]; rfl) h
  · exact fun b w' _ _ h => may_move rfl _ (by first | exact .inl rfl | exact .inr rfl) (.int .u32 rb) (by rw [E]; rfl) (fun d hd => by cases hd; rw [E]; rfl) h
  · exact fun b w' _ _ h => may_move rfl _ (by first | exact .inl rfl | exact .inr rfl) (.int .u32 iw) (by rw [E]; rfl) (fun d hd => by cases hd; rw [E]; rfl) h
  intro b w_ hall h
  clear HS
  have HS := Aside0.mk h
  clear h hall
  simp only [puts]
  go_wp2_with (first | ((with_reducible refine gate_dst (N := 77) rfl ?_); refine xl_bin rfl .add 22 22 (.tmp 75) (.tmp 76) rfl (.int .u32 rb) (.int .u32 iw) rfl rfl (.int .u32 at1) rfl (fun w => run_add 22 .u32 rb iw at1 HT.out w) ?_) | ((with_reducible refine gate_dst (N := 19) rfl ?_); refine xl_box HS.out rfl 19 rfl #[.int .i64 0, .int .u32 0] 35 ?hr ?_; (case hr => first | (go_simp; done) | (go_simp; rfl)); intro gv w_ hs_; clear HS; have HS := Aside0.mk hs_; clear hs_) | ((with_reducible refine gate_store (t := 35) (p := 19) rfl ?_); refine xl_storeRow HS.out 0 gv #[.int .i64 0, .int .u32 0] 35 rfl rfl rfl 35 (.tmp 19) (.tmp 78) rfl rfl #[.int .i64 0, .int .u32 0] rfl (by kernel_rfl) rfl (by simp [Value.oneCell']) ?_; intro w_ hs_; clear HS; have HS := Aside0.mk hs_; clear hs_) | ((with_reducible refine gate_dst (N := 80) rfl ?_); refine xl_load HS.out 3 gi #[.int .u8 op, .int .u8 oA, .int .u8 oB, .int .u8 oC, .int .i32 im] 48 rfl rfl 5 (.tmp 79) rfl 0 rfl (by kernel_rfl) (.int .u8 op) rfl ?_))
  refine region_det [(102, (.pointer (some ⟨gi, 1, none⟩))), (103, .int .u8 oA), (104, .int .u8 op), (105, .int .u8 (alikeId op)), (106, .func (.func (rkId (alikeId op))) #[] #[]), (107, .int .u32 rb), (108, .int .u32 iw), (109, .int .u32 v), (110, (.pointer (some ⟨gn, 0, none⟩))), (111, (.pointer (some ⟨gn, oA.toNat, none⟩)))] (fun b w' => St w.heap.size w w' [(some gv, #[.int .i64 0, .int .u32 0], 35), (some gw, cpv (R.set 0 0) P1, 25), (some gn, bif b 10 then cpv ((R.set 0 0).set oA.toNat v) P1 else cpv (R.set 0 0) P1, 25), (some gi, #[.int .u8 op, .int .u8 oA, .int .u8 oB, .int .u8 oC, .int .i32 im], 48), (v5.ownBlock, c5, 9), (some ge, #[.int .i64 0, .int .u32 0], 35), (some gr, (Array.replicate 17 (.int .u32 0)), 25), (some gs, spv s, 29), (some gc, cpv R pc, 25)]) (by kernel_rfl) (by kernel_rfl) (by kernel_rfl) (by kernel_rfl) HS.out.drew (fun af E => ⟨?_, ?_, ?_, ?_, ?_, ?_, ?_, ?_, ?_, ?_, ?_, trivial⟩) ?_
  · exact fun b w' _ _ h => may_field rfl 48 (.tmp 12) 1 rfl (.pointer (some ⟨gi, 0, none⟩)) (by rw [E]; rfl) (.pointer (some ⟨gi, 1, none⟩)) (fun w => by first | (go_simp; done) | (go_simp; rfl)) (fun d hd => by cases hd; rw [E]; rfl) h
  · exact fun b w' _ _ h => may_load h 3 gi #[.int .u8 op, .int .u8 oA, .int .u8 oB, .int .u8 oC, .int .i32 im] 48 rfl rfl 5 (.tmp 102) rfl 1 (by rw [E]; rfl) (by kernel_rfl) (.int .u8 oA) rfl (fun d hd => by cases hd; rw [E]; rfl) h
  · exact fun b w' _ _ h => may_move rfl _ (by first | exact .inl rfl | exact .inr rfl) (.int .u8 op) (by rw [E]; rfl) (fun d hd => by cases hd; rw [E]; rfl) h
  · exact fun b w' _ _ h => may_goes rfl 16 _ Tryd.func16 (by kernel_rfl) rfl _ _ rfl #[.int .u8 op] (by rw [E]; (try simp only [List.map_toArray, List.map_cons, List.map_nil]); rfl) (.int .u8 (alikeId op)) (fun d hd => by cases hd; rw [E]; rfl) ((calike_calls op w' ho.1 ho.2).mono (fun e w2 he => ⟨he.1, h.later he.2⟩))
  · exact fun b w' _ _ h => may_goes rfl 15 _ Tryd.func15 (by kernel_rfl) rfl _ _ rfl #[.int .u8 (alikeId op)] (by rw [E]; (try simp only [List.map_toArray, List.map_cons, List.map_nil]); rfl) (.func (.func (rkId (alikeId op))) #[] #[]) (fun d hd => by cases hd; rw [E]; rfl) ((reckon_calls (alikeId op) w').mono (fun e w2 he => ⟨he.1, (by obtain ⟨n_, hn_⟩ := he.2.out; rw [hn_]; exact h.drewN n_)⟩))
  · exact fun b w' _ _ h => may_move rfl _ (by first | exact .inl rfl | exact .inr rfl) (.int .u32 rb) (by rw [E]; rfl) (fun d hd => by cases hd; rw [E]; rfl) h
  · exact fun b w' _ _ h => may_move rfl _ (by first | exact .inl rfl | exact .inr rfl) (.int .u32 iw) (by rw [E]; rfl) (fun d hd => by cases hd; rw [E]; rfl) h
  · exact fun b w' _ _ h => (rk_fn (alikeId op)).elim (fun fn hfn => may_goesV rfl (rkId (alikeId op)) fn hfn.1 hfn.2.1 hfn.2.2 106 _ _ rfl (by rw [E]; rfl) #[.int .u32 rb, .int .u32 iw] (by rw [E]; (try simp only [List.map_toArray, List.map_cons, List.map_nil]); rfl) (.int .u32 v) (fun d hd => by cases hd; rw [E]; rfl) ((HK.out w').mono (fun e w2 he => ⟨he.1, (by obtain ⟨n_, hn_⟩ := he.2.out; rw [hn_]; exact h.drewN n_)⟩)))
  · exact fun b w' _ _ h => may_field rfl 25 (.tmp 13) 0 rfl (.pointer (some ⟨gn, 0, none⟩)) (by rw [E]; rfl) (.pointer (some ⟨gn, 0, none⟩)) (fun w => by first | (go_simp; done) | (go_simp; rfl)) (fun d hd => by cases hd; rw [E]; rfl) h
  · exact fun b w' _ _ h => may_index rfl 23 (.tmp 110) (.tmp 103) rfl (.pointer (some ⟨gn, 0, none⟩)) (.int .u8 oA) (by rw [E]; rfl) (by rw [E]; rfl) (.pointer (some ⟨gn, oA.toNat, none⟩)) (fun w => idx23 gn .u8 oA hA.1 hA.2 w) (fun d hd => by cases hd; rw [E]; rfl) h
  · exact fun b w' hb_ hn_ h => may_store h 2 gn _ 25 rfl rfl rfl 22 (.tmp 111) (.tmp 109) rfl oA.toNat (by rw [E]; rfl) (.int .u32 v) (by rw [E]; rfl) (by kernel_rfl) rfl (by cases b 10 <;> simp [cpv_size P1 hR1, cpv_size P1 hR2] <;> omega) (fun w2 h2 => by rw [hb_] at h2; simp only [cond_false, cpv_set P1 hR1 (show oA.toNat < 16 by omega)] at h2; exact h2)
  intro b w_ hall h
  rw [hall 10 (by decide)] at h
  simp only [cond_true] at h
  clear HS
  have HS := Aside0.mk h
  clear h hall
  simp only [puts]
  go_wp2_with (first | ((with_reducible refine gate_dst (N := 204) rfl ?_); refine xl_index rfl 23 (.tmp 203) (.const (.int .i64 0)) rfl (.pointer (some ⟨gn, 0, none⟩)) (.int .i64 0) rfl rfl (.pointer (some ⟨gn, 0, none⟩)) (fun w => idx23 gn .i64 0 (by decide) (by decide) w) ?_) | ((with_reducible refine gate_store (t := 22) (p := 204) rfl ?_); refine xl_store HS.out 2 gn (cpv ((R.set 0 0).set oA.toNat v) P1) 25 rfl rfl rfl 22 (.tmp 204) (.const (.int .u32 0)) rfl 0 rfl (.int .u32 0) rfl (by kernel_rfl) rfl (by simp [cpv_size P1 hR2]) ?_; intro w_ hs_; rw [cpv_set P1 hR2 (by decide)] at hs_; clear HS; have HS := Aside0.mk hs_; clear hs_))
  refine region_det [(205, .agg (cpv (((R.set 0 0).set oA.toNat v).set 0 0) P1)), (206, v5), (207, .agg #[.int .i64 0, .int .u32 0]), (7, v5)] (fun b w' => St w.heap.size w w' [(some gv, #[.int .i64 0, .int .u32 0], 35), (some gw, cpv (R.set 0 0) P1, 25), (some gn, cpv (((R.set 0 0).set oA.toNat v).set 0 0) P1, 25), (some gi, #[.int .u8 op, .int .u8 oA, .int .u8 oB, .int .u8 oC, .int .i32 im], 48), (v5.ownBlock, c5, 9), (some ge, bif b 5 then #[.int .i64 0, .int .u32 0] else #[.int .i64 0, .int .u32 0], 35), (some gr, bif b 3 then cpv (((R.set 0 0).set oA.toNat v).set 0 0) P1 else (Array.replicate 17 (.int .u32 0)), 25), (some gs, spv s, 29), (some gc, cpv R pc, 25)]) (by kernel_rfl) (by kernel_rfl) (by kernel_rfl) (by kernel_rfl) HS.out.drew (fun af E => ⟨?_, ?_, ?_, ?_, ?_, ?_, trivial⟩) ?_
  · exact fun b w' _ _ h => may_loadRow h 2 gn (cpv (((R.set 0 0).set oA.toNat v).set 0 0) P1) 25 rfl rfl 25 (.tmp 13) rfl (by rw [E]; rfl) (by kernel_rfl) (cpu_info P1 (show (((R.set 0 0).set oA.toNat v).set 0 0).length = 16 by simp [hR2])) (fun d hd => by cases hd; rw [E]; rfl) h
  · exact fun b w' _ _ h => may_move rfl _ (by first | exact .inl rfl | exact .inr rfl) v5 (by rw [E]; rfl) (fun d hd => by cases hd; rw [E]; rfl) h
  · exact fun b w' _ _ h => may_loadRow h 0 gv #[.int .i64 0, .int .u32 0] 35 rfl rfl 35 (.tmp 19) rfl (by rw [E]; rfl) (by kernel_rfl) (by kernel_rfl) (fun d hd => by cases hd; rw [E]; rfl) h
  · exact fun b w' _ _ h => may_storeRow h 6 gr _ 25 rfl rfl rfl 25 (.tmp 6) (.tmp 205) rfl (by rw [E]; rfl) (cpv (((R.set 0 0).set oA.toNat v).set 0 0) P1) (by rw [E]; rfl) (cpu_info P1 (show (((R.set 0 0).set oA.toNat v).set 0 0).length = 16 by simp [hR2])) (by cases b 3 <;> simp [cpv_size P1 (show (((R.set 0 0).set oA.toNat v).set 0 0).length = 16 by simp [hR2])]) (cpv_one (((R.set 0 0).set oA.toNat v).set 0 0) P1) (fun _ h => h)
  · exact fun b w' _ _ h => may_move rfl _ (by first | exact .inl rfl | exact .inr rfl) v5 (by rw [E]; rfl) (fun d hd => by cases hd; rw [E]; rfl) h
  · exact fun b w' _ _ h => may_storeRow h 5 ge _ 35 rfl rfl rfl 35 (.tmp 8) (.tmp 207) rfl (by rw [E]; rfl) #[.int .i64 0, .int .u32 0] (by rw [E]; rfl) (by kernel_rfl) (by cases b 5 <;> rfl) (by simp [Value.oneCell']) (fun _ h => h)
  intro b w_ hall h
  rw [hall 3 (by decide)] at h
  rw [hall 5 (by decide)] at h
  simp only [cond_true] at h
  clear HS
  have HS := Aside0.mk h
  clear h hall
  simp only [puts]
  go_wp2
  refine bodyPost_ret (v := .tuple #[.agg (cpv (((R.set 0 0).set oA.toNat v).set 0 0) P1), v5, .agg #[.int .i64 0, .int .u32 0]]) (results_list (rs := [.cell 6 25, .tmp 7, .cell 8 35]) (vs := [.agg (cpv (((R.set 0 0).set oA.toNat v).set 0 0) P1), v5, .agg #[.int .i64 0, .int .u32 0]]) rfl (by simp) (.cell gr 25 (cpv (((R.set 0 0).set oA.toNat v).set 0 0) P1) (0, 0) _ rfl (HS.out.blk (n := 6) rfl) Tryd.underlying25 rfl (cpu_info P1 (show (((R.set 0 0).set oA.toNat v).set 0 0).length = 16 by simp [hR2])) (.tmp (.cell ge 35 _ (0, 0) _ rfl (HS.out.blk (n := 5) rfl) Tryd.underlying35 rfl (by kernel_rfl) .nil)))) rfl ?_
  exact ⟨v5, rfl, HO.out _ (fun g hg => (HS.out.own _ (List.mem_of_getElem? (i := 4) rfl) g hg).2), HS.out.below⟩
end Go.Proofs.YtiklcpacbclpnaaDoor.P
end
