-- Laid by wip/tools/gprint.py (a changed run of the kit's print) for this claim; not trusted: Lean checks it.
import Derived.Test.YtgjhabeoaejcdaaPx0
import Derived.Test.YtgjhabeoaejcdaaPx3
import Derived.Test.YtgjhabeoaejcdaaGa
namespace Go.Proofs.Ytgjhabeoaejcdaa.P
open Go.RowKit Go.Proofs.YtgjhabeoaejcdaaW.PrintWords Go.Proofs.YtgjhabeoaejcdaaW.PrintLast Go.Proofs.YtgjhabeoaejcdaaW.PrintMore
attribute [local go_sem] max2_int min2_int max_two min_two max_three min_three max_four min_four   -- for this text's walks alone
set_option linter.unusedVariables false
set_option linter.unusedSimpArgs false

/-! ### exe_cut: function 25 -/
def exe_cut.l0 : Nat → ByteArray → Int → Bool → List (S33) → Int → Int → Option ((List (S33)))
  | 0, _, _, _, _, _, _ => none
  | k + 1, x0, x1, x2, x7, x12, x13 => if x13 < x12 then (if 0 ≤ (wrap64 (x13 * 128)) then (if (wrap64 (x13 * 128)) ≤ (mn (x0.size : Int) (wrap64 ((wrap64 (x13 + 1)) * 128))) then (if (mn (x0.size : Int) (wrap64 ((wrap64 (x13 + 1)) * 128))) ≤ (x0.size : Int) then ((strings_Repeat.f (⟨#[0]⟩ : ByteArray) (wrap64 (128 - ((x0.extract ((wrap64 (x13 * 128)) : Int).toNat ((mn (x0.size : Int) (wrap64 ((wrap64 (x13 + 1)) * 128))) : Int).toNat).size : Int)))).bind fun t110 => (if (x0.extract ((wrap64 (x13 * 128)) : Int).toNat ((mn (x0.size : Int) (wrap64 ((wrap64 (x13 + 1)) * 128))) : Int).toNat).size + t110.size ≤ 9223372036854775807 then (if x7.length < 4398046511104 then (exe_cut.l0 k x0 x1 x2 (x7 ++ [(⟨wrap64 (x1 + x13), (x0.extract ((wrap64 (x13 * 128)) : Int).toNat ((mn (x0.size : Int) (wrap64 ((wrap64 (x13 + 1)) * 128))) : Int).toNat) ++ t110, x2⟩ : S33)]) x12 (wrap64 (x13 + 1))) else (none)) else (none))) else (none)) else (none)) else (none)) else (some x7)
def exe_cut.f (k : Nat) (a0 : ByteArray) (a1 : Int) (a2 : Bool) : Option ((List (S33))) := (exe_pages.f (a0.size : Int)).bind fun t109 => (exe_cut.l0 k a0 a1 a2 ([] : List (S33)) t109 0)
theorem exe_cut.mono_l : ∀ k, (∀ y0 y1 y2 y3 y4 y5, LeO (exe_cut.l0 k y0 y1 y2 y3 y4 y5) (exe_cut.l0 (k + 1) y0 y1 y2 y3 y4 y5))
  | 0 => fun _ _ _ _ _ _ r h => by simp [exe_cut.l0] at h
  | k + 1 => by
    have ih0 := exe_cut.mono_l k
    · intro y0 y1 y2 y3 y4 y5
      unfold exe_cut.l0
      repeat' first
      | (with_reducible exact ih0 _ _ _ _ _ _)
      | (with_reducible exact LeO.refl _)
      | (with_reducible exact LeO.none _)
      | (with_reducible refine LeO.ite ?_ ?_)
      | (with_reducible refine LeO.bind ?_ (fun _ => ?_))
      | exact ih0 _ _ _ _ _ _
      | exact LeO.none _
      | refine LeO.ite ?_ ?_
      | refine LeO.bind ?_ (fun _ => ?_)
theorem exe_cut.mono : ∀ a0 a1 a2 k, LeO (exe_cut.f k a0 a1 a2) (exe_cut.f (k + 1) a0 a1 a2) := by
  intro a0 a1 a2 k
  have ih0 := exe_cut.mono_l k
  unfold exe_cut.f
  repeat' first
      | (with_reducible exact ih0 _ _ _ _ _ _)
      | (with_reducible exact LeO.refl _)
      | (with_reducible exact LeO.none _)
      | (with_reducible refine LeO.ite ?_ ?_)
      | (with_reducible refine LeO.bind ?_ (fun _ => ?_))
      | exact ih0 _ _ _ _ _ _
      | exact LeO.none _
      | refine LeO.ite ?_ ?_
      | refine LeO.bind ?_ (fun _ => ?_)
set_option maxHeartbeats 8000000 in
set_option maxRecDepth 100000 in
theorem exe_cut.calls (k : Nat) (a0 : ByteArray) (a1 : Int) (a2 : Bool) (r : List (S33)) (w : World) (h : exe_cut.f k a0 a1 a2 = some r) :
    Calls Try.prog 25 #[.string a0, .int .i64 a1, .bool a2] w fun e w' => ∃ v0_ : Value, e = .returned (v0_) ∧ Kd.R k33 33 w' w.heap.size (fun _ => True) v0_ r ∧ Below w.heap.size w w' := by
  have hu33 := Try.underlying33
  have HB := Aside0.mk (Below.refl w.heap.size w)
  have H : ((exe_pages.f (a0.size : Int)).bind fun t109 => (exe_cut.l0 k a0 a1 a2 ([] : List (S33)) t109 0)) = some r := h
  clear h
  replace H := Option.bind_eq_some_iff.mp H
  obtain ⟨t109, A40, H⟩ := H
  replace H : (exe_cut.l0 k a0 a1 a2 ([] : List (S33)) t109 0) = some r := H
  have A4 := Aside0.mk A40
  clear A40
  have H' := Aside0.mk H
  clear H
  go_enter Try.func25, Try.ntmps25
  go_wp2_with (first | ((with_reducible refine gate_callee (f := 34) rfl ?_); refine goesL_ (some 12) rfl rfl Try.func34 (by kernel_rfl) rfl #[.int .i64 (a0.size : Int)] rfl (by (try simp only [List.map_toArray, List.map_cons, List.map_nil]); first | done | rfl | (simp only [List.length_drop, List.length_take]; rfl)) ?_; (with_reducible refine (exe_pages.calls (a0.size : Int) t109 _ A4.out).mono ?_); rintro e w' ⟨rfl, ⟨nd, rfl⟩⟩; refine ⟨_, rfl, ?_⟩))
  go_loopg [7, 13] k (fun kq v7 v13 w' => ∃ (x7_1 : List (S33)) (x13_1 : Int), v13 = .int .i64 x13_1 ∧ Aside0 (exe_cut.l0 kq a0 a1 a2 x7_1 t109 x13_1 = some r) ∧ Aside0 (kq ≤ k) ∧ Aside0 (Kd.R k33 33 w' w.heap.size (fun _ => True) v7 x7_1) ∧ Aside0 (Below w.heap.size w w'))
  case atStart => exact ⟨(([] : List (S33))), (0), (by first | rfl | (simp; done) | (simp [*]; done)), H', ⟨Nat.le_refl _⟩, ⟨by first | exact Kd.R_nil _ _ _ _ _ | exact Kd.N_nil _ _ _ _ _ | exact Kd.V_nil _ _ _ _ _ | exact Kd.Q_nil _ _ _ _ _ | exact Kd.S_nil _ _ _ _ _⟩, ⟨by repeat (first | (with_reducible first | exact HB.out | apply below_alloc | apply pw_below_drewN | apply below_drew1) | exact HB.out)⟩⟩
  case round =>
    clear H'
    try clear c2
    try clear p2
    try clear c3
    obtain ⟨x7_1, x13_1, rfl, HA, HK1, HO_7, HB⟩ := hrel
    cases gk with
    | zero => exact absurd HA.out (by simp [exe_cut.l0])
    | succ k1 =>
      have H := HA.out
      clear HA
      simp only [exe_cut.l0] at H
      by_cases c5 : x13_1 < t109
      · rw [if_pos c5] at H
        have c5b0 : decide (x13_1 < t109) = true := decide_eq_true c5
        clear c5
        obtain ⟨ji6, hji6⟩ : ∃ j_ : Int, (mn (a0.size : Int) (wrap64 ((wrap64 (x13_1 + 1)) * 128))) = j_ := ⟨_, rfl⟩
        replace H : (if 0 ≤ (wrap64 (x13_1 * 128)) then (if (wrap64 (x13_1 * 128)) ≤ (ji6) then (if (ji6) ≤ (a0.size : Int) then ((strings_Repeat.f (⟨#[0]⟩ : ByteArray) (wrap64 (128 - ((a0.extract ((wrap64 (x13_1 * 128)) : Int).toNat ((ji6) : Int).toNat).size : Int)))).bind fun t110 => (if (a0.extract ((wrap64 (x13_1 * 128)) : Int).toNat ((ji6) : Int).toNat).size + t110.size ≤ 9223372036854775807 then (if x7_1.length < 4398046511104 then (exe_cut.l0 k1 a0 a1 a2 (x7_1 ++ [(⟨wrap64 (a1 + x13_1), (a0.extract ((wrap64 (x13_1 * 128)) : Int).toNat ((ji6) : Int).toNat) ++ t110, a2⟩ : S33)]) t109 (wrap64 (x13_1 + 1))) else (none)) else (none))) else (none)) else (none)) else (none)) = some r := by first | (rw [hji6] at H; exact H) | (simp only [hji6] at H ⊢; exact H)
        have hji6_ : (if (wrap64 ((wrap64 (x13_1 + 1)) * 128)) < (a0.size : Int) then (wrap64 ((wrap64 (x13_1 + 1)) * 128)) else (a0.size : Int)) = ji6 := hji6
        obtain ⟨ji7, hji7⟩ : ∃ j_ : Int, (wrap64 (x13_1 * 128)) = j_ := ⟨_, rfl⟩
        replace H : (if 0 ≤ (ji7) then (if (ji7) ≤ (ji6) then (if (ji6) ≤ (a0.size : Int) then ((strings_Repeat.f (⟨#[0]⟩ : ByteArray) (wrap64 (128 - ((a0.extract ((ji7) : Int).toNat ((ji6) : Int).toNat).size : Int)))).bind fun t110 => (if (a0.extract ((ji7) : Int).toNat ((ji6) : Int).toNat).size + t110.size ≤ 9223372036854775807 then (if x7_1.length < 4398046511104 then (exe_cut.l0 k1 a0 a1 a2 (x7_1 ++ [(⟨wrap64 (a1 + x13_1), (a0.extract ((ji7) : Int).toNat ((ji6) : Int).toNat) ++ t110, a2⟩ : S33)]) t109 (wrap64 (x13_1 + 1))) else (none)) else (none))) else (none)) else (none)) else (none)) = some r := by first | (rw [hji7] at H; exact H) | (simp only [hji7] at H ⊢; exact H)
        have hji7w : (IntKind.i64.wrap (x13_1 * 128)) = ji7 := (i64_w _).trans hji7
        by_cases c8 : 0 ≤ (ji7)
        · rw [if_pos c8] at H
          have c8b0 := eq_true c8
          have c8b1 : decide (0 ≤ (ji7)) = true := decide_eq_true c8
          clear c8
          by_cases c9 : (ji7) ≤ (ji6)
          · rw [if_pos c9] at H
            have c9b0 := eq_true c9
            have c9b1 : decide ((ji7) ≤ (ji6)) = true := decide_eq_true c9
            clear c9
            by_cases c10 : (ji6) ≤ (a0.size : Int)
            · rw [if_pos c10] at H
              have c10b0 := eq_true c10
              have c10b1 : decide ((ji6) ≤ (a0.size : Int)) = true := decide_eq_true c10
              clear c10
              replace H := Option.bind_eq_some_iff.mp H
              obtain ⟨t110, A110, H⟩ := H
              replace H : (if (a0.extract ((ji7) : Int).toNat ((ji6) : Int).toNat).size + t110.size ≤ 9223372036854775807 then (if x7_1.length < 4398046511104 then (exe_cut.l0 k1 a0 a1 a2 (x7_1 ++ [(⟨wrap64 (a1 + x13_1), (a0.extract ((ji7) : Int).toNat ((ji6) : Int).toNat) ++ t110, a2⟩ : S33)]) t109 (wrap64 (x13_1 + 1))) else (none)) else (none)) = some r := H
              have A11 := Aside0.mk A110
              clear A110
              by_cases c12 : (a0.extract ((ji7) : Int).toNat ((ji6) : Int).toNat).size + t110.size ≤ 9223372036854775807
              · rw [if_pos c12] at H
                have c12b0 := eq_true c12
                have c12b1 : decide ((a0.extract ((ji7) : Int).toNat ((ji6) : Int).toNat).size + t110.size ≤ 9223372036854775807) = true := decide_eq_true c12
                try have c12b2 : (9223372036854775807 < (a0.extract ((ji7) : Int).toNat ((ji6) : Int).toNat).size + t110.size) = False := eq_false (Nat.not_lt.2 c12)
                have hsz12 : (a0.extract ((ji7) : Int).toNat ((ji6) : Int).toNat).size = ji6.toNat - ji7.toNat := by rw [ByteArray.size_extract, Nat.min_eq_left (by have := of_eq_true c10b0; omega)]
                have c12b3 : (ji6.toNat - ji7.toNat + t110.size ≤ 9223372036854775807) = True := by rw [← hsz12]; exact c12b0
                have c12b4 : (9223372036854775807 < ji6.toNat - ji7.toNat + t110.size) = False := by rw [← hsz12]; exact c12b2
                clear hsz12
                try (have c12b5 := c12b0; have c12b6 := c12b2; simp only [ByteArray.size_append, ByteArray.size_extract, Int.toNat_natCast, Nat.min_self, size_lit_, List.size_toArray, List.length_cons, List.length_nil, Nat.reduceAdd] at c12b5 c12b6)
                by_cases c13 : x7_1.length < 4398046511104
                · rw [if_pos c13] at H
                  have LMc13 := Aside0.mk c13
                  clear c13
                  obtain ⟨y111, hy111⟩ : ∃ y_ : List (S33), y_ = (x7_1 ++ [(⟨wrap64 (a1 + x13_1), (a0.extract ((ji7) : Int).toNat ((ji6) : Int).toNat) ++ t110, a2⟩ : S33)]) := ⟨_, rfl⟩
                  replace H : (exe_cut.l0 k1 a0 a1 a2 y111 t109 (wrap64 (x13_1 + 1))) = some r := by first | (rw [hy111]; with_reducible exact H) | (have H2_ := (Option.bind_some _ _).symm.trans H; rw [hy111]; with_reducible exact H2_) | (have H2_ := (Option.bind_some _ _).symm.trans H; with_reducible exact H2_) | with_reducible exact H | (rw [hy111]; exact H) | exact H
                  have Ny111 := Aside0.mk hy111
                  clear hy111
                  have H' := Aside0.mk H
                  clear H
                  go_wp2_with (first | ((with_reducible refine gate_callee (f := 24) rfl ?_); refine goesL_ (some 34) rfl rfl Try.func24 (by kernel_rfl) rfl #[.string (⟨#[0]⟩ : ByteArray), .int .i64 (wrap64 (128 - ((a0.extract ((ji7) : Int).toNat ((ji6) : Int).toNat).size : Int)))] rfl (by (try simp only [List.map_toArray, List.map_cons, List.map_nil]); first | done | (rw [ByteArray.size_extract, Nat.min_eq_left (by have := of_eq_true c10b0; omega)]; rfl) | (simp only [hji6, hji7]; rfl) | rfl | (simp only [List.length_drop, List.length_take]; rfl)) ?_; (with_reducible refine (strings_Repeat.calls (⟨#[0]⟩ : ByteArray) (wrap64 (128 - ((a0.extract ((ji7) : Int).toNat ((ji6) : Int).toNat).size : Int))) t110 _ A11.out).mono ?_); rintro e w14 ⟨rfl, hb⟩; refine ⟨_, rfl, ?_⟩; have n0_ := Aside0.mk (Kd.R_below (by (with_reducible repeat (first | apply Kd.R_alloc | apply Kd.R_drewN | apply Kd.R_drew)); exact HO_7.out) hb); have n1_ := Aside0.mk (below_step (by repeat (first | (with_reducible first | exact HB.out | apply below_alloc | apply pw_below_drewN | apply below_drew1) | exact HB.out)) hb); clear HO_7; clear HB; have HO_7 := n0_; have HB := n1_; clear n0_ n1_; (try clear hb); (try clear hb2); (try clear hk); (try clear hi)) | ((with_reducible refine gate_builtin (b := .append) (xs := #[.tmp 26, .tmp 38]) rfl ?_); at_builtin; refine Kd.R_append k33 (w0 := w) w.heap.size rfl (.tmp 26) (.tmp 38) 28 33 (.agg #[(.int .i64 0), (.string ⟨#[]⟩), (.bool false)]) 32 rfl Try.underlying28 info33 rfl (by decide) (by omega) u7 x7_1 (⟨wrap64 (a1 + x13_1), (a0.extract ((ji7) : Int).toNat ((ji6) : Int).toNat) ++ t110, a2⟩ : S33) [.int .i64 (wrap64 (a1 + x13_1)), .string ((a0.extract ((ji7) : Int).toNat ((ji6) : Int).toNat) ++ t110), .bool a2] (fun _ => True) (fun _ => False) rfl rfl ?aP (fun _ hk => hk.elim) ?aF ?aO ?aB ?aS ?aL ?_; (case aP => exact k33_mkM _ _ _ (⟨wrap64 (a1 + x13_1), (a0.extract ((ji7) : Int).toNat ((ji6) : Int).toNat) ++ t110, a2⟩ : S33)); (case aB => exact (by repeat (first | (with_reducible first | exact HB.out | apply below_alloc | apply pw_below_drewN | apply below_drew1) | exact HB.out))); (case aF => exact (fun _ _ => trivial)); (case aO => exact (by (with_reducible repeat (first | apply Kd.R_alloc | apply Kd.R_drewN | apply Kd.R_drew)); exact HO_7.out)); (case aS => exact (below_size (by repeat (first | (with_reducible first | exact HB.out | apply below_alloc | apply pw_below_drewN | apply below_drew1) | exact HB.out)))); (case aL => have := LMc13.out; omega); intro v112 w15 ho hb hg hat; rw [← Ny111.out] at ho; have n0_ := Aside0.mk (hb); have n1_ := Aside0.mk (ho); clear HB; clear HO_7; have HB := n0_; have HO113 := n1_; clear n0_ n1_; clear ho hb hg hat))
                  go_roundg k1
                  case measure => have := HK1.out; omega
                  case rel => exact ⟨(y111), (wrap64 (x13_1 + 1)), (by first | rfl | (simp; done) | (simp [*]; done)), H', ⟨by have := HK1.out; omega⟩, ⟨by (with_reducible repeat (first | apply Kd.R_alloc | apply Kd.R_drewN | apply Kd.R_drew)); exact HO113.out⟩, ⟨by repeat (first | (with_reducible first | exact HB.out | apply below_alloc | apply pw_below_drewN | apply below_drew1) | exact HB.out)⟩⟩
                · rw [if_neg c13] at H
                  exact absurd H (by simp)
              · rw [if_neg c12] at H
                exact absurd H (by simp)
            · rw [if_neg c10] at H
              exact absurd H (by simp)
          · rw [if_neg c9] at H
            exact absurd H (by simp)
        · rw [if_neg c8] at H
          exact absurd H (by simp)
      · rw [if_neg c5] at H
        have c5b0 : decide (x13_1 < t109) = false := decide_eq_false c5
        clear c5
        obtain rfl := Option.some.inj H
        go_wp2
        go_ret
        exact ⟨_, by first | rfl | (simp [errW_none, errW_some] <;> rfl) | (simp [*, errW_none, errW_some] <;> rfl), by (with_reducible repeat (first | apply Kd.R_alloc | apply Kd.R_drewN | apply Kd.R_drew)); exact HO_7.out, by repeat (first | (with_reducible first | exact HB.out | apply below_alloc | apply pw_below_drewN | apply below_drew1) | exact HB.out)⟩

-- GIVEN: function 32 (num_Put)

-- GIVEN: function 26 (exe_text)

end Go.Proofs.Ytgjhabeoaejcdaa.P
