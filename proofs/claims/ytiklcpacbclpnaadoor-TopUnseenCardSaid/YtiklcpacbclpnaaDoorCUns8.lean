-- Printed for this claim and put together by wip/tools/prune.py.
import Derived.Maps.OwnOps
import Derived.Maps.Views
import Derived.Test.YtiklcpacbclpnaaDoorRows
import Derived.WalkKit
import Derived.ProofKit
import Derived.OpenShut
import Derived.SliceStrings
import Derived.ShutString
import Derived.ChangeOld
import Derived.Below
import Derived.SizedLaws
import Derived.Lib.SmallJoins
import Derived.Deep.DeepHandedRow
import Derived.Shelf.Vars
import Derived.Lay
import Derived.LaidSub
import Derived.MakeChecks
import Derived.Test.YtiklcpacbclpnaaDoorCUns1
import Derived.Test.YtiklcpacbclpnaaDoorCUns7
set_option linter.unusedVariables false
set_option linter.unusedSimpArgs false
section
set_option linter.unusedVariables false
set_option linter.unusedSimpArgs false
namespace Go.Proofs.YtiklcpacbclpnaaDoor.P
open Go.RowKit Go.Proofs.YtiklcpacbclpnaaDoorW.PrintWords Go.Proofs.YtiklcpacbclpnaaDoorW.PrintLast Go.Proofs.YtiklcpacbclpnaaDoorW.PrintMore
attribute [local go_sem] isSome_setCell_eq
def pgO : List Pg := List.replicate 16 ⟨false, false, 0⟩
theorem laid_at {w0 w : World} (h : Laid w0) (hb : Below w0.heap.size w0 w) : Aside0 (Laid w) := Aside0.laid ⟨h⟩ hb
def SpR (w0 : World) (g6 g5 : Nat) (g : Nat × Nat × Value) (b : Nat → Bool) (w : World) : Prop :=
  St w0.heap.size w0 w [(bif b 2 then some g.1 else none, #[.string zB, .string zB], 9), (bif b 16 then some g.2.1 else none, #[.int .u8 0, .int .u8 192, .int .u8 72, .int .u8 4], 5), (some g6, cpv (((List.replicate 16 0).set 2 2).set 3 3) 0, 25), (some g5, spv pgR, 29)] ∧ (b 18 = true → Kd.R Kd.string 9 w w0.heap.size (fun k => g.2.2.ownBlock = some k) g.2.2 [zB, frB])
set_option maxRecDepth 100000 in
theorem step_ex (A : Option Addr) (c : Nat) (w : World) (hr : Kd.C Kd.string w A [zB, frB].length [zB, frB]) (hc : [zB, frB].length ≤ c) : Calls Tryd.prog 7 #[.agg (cpv (((List.replicate 16 0).set 2 2).set 3 3) 0), .agg (spv pgR), .slice A [zB, frB].length c] w (StepEnds w rZ 4 [zB, frB] [zB, frB] 0 0) := by
  have h := step_calls rA 0 A c [zB, frB] pgR w rfl (by decide) (by decide) hr hc rfl (by decide)
  rw [step_ins] at h
  exact h
variable {w0 w w1 : World} {g6 g5 : Nat} {g : Nat × Nat × Value} {b : Nat → Bool}
theorem spr_start (h : St w0.heap.size w0 w [(some g6, cpv (((List.replicate 16 0).set 2 2).set 3 3) 0, 25), (some g5, spv pgR, 29)]) : SpR w0 g6 g5 (0, 0, undef) (fun _ => false) w :=
  ⟨(h.add none _ _ (fun _ h => by cases h)).add none _ _ (fun _ h => by cases h), fun h => by cases h⟩
theorem spr_later (h : SpR w0 g6 g5 g b w) (hb : Below w.heap.size w w1) : SpR w0 g6 g5 g b w1 := ⟨h.1.later hb, fun h1 => Kd.R_below (h.2 h1) hb⟩
theorem spr_frames (h : SpR w0 g6 g5 g b w) (hb : b 2 = false) : SpR w0 g6 g5 (w.heap.size, g.2) (fun j => j == 2 || b j) (w.alloc (.cells #[.string zB, .string zB] 9 (0, 0))) := by
  have h1 := h.1.alloc #[.string zB, .string zB] 9
  exact ⟨h1.sub (.cons_cons _ (.cons _ (List.Sublist.refl _))), fun h2 => Kd.R_below (h.2 h2) (below_alloc (Below.refl _ _) _)⟩
theorem spr_bytes (h : SpR w0 g6 g5 g b w) (hb : b 16 = false) : SpR w0 g6 g5 (g.1, w.heap.size, g.2.2) (fun j => j == 16 || b j) (w.alloc (.cells #[.int .u8 0, .int .u8 192, .int .u8 72, .int .u8 4] 5 (0, 0))) := by
  have h1 := h.1.alloc #[.int .u8 0, .int .u8 192, .int .u8 72, .int .u8 4] 5
  exact ⟨((h1.sub (.cons_cons _ (.cons_cons _ (.cons _ (List.Sublist.refl _)))))).swap, fun h2 => Kd.R_below (h.2 h2) (below_alloc (Below.refl _ _) _)⟩
theorem spr_text (h : SpR w0 g6 g5 g b w) (hb : b 16 = true) : (convert 52 9 (.slice (some ⟨g.2.1, 0, none⟩) 4 4)).run Tryd.prog w = .ok (.string insB) w := by
  have h1 := h.1
  rw [hb] at h1
  exact run_convert_bytes_back w 52 9 5 ⟨g.2.1, 0, none⟩ 4 [0, 192, 72, 4] Tryd.underlying52 Tryd.underlying5 Tryd.underlying9 (fun j hj => by
    have hc := fun k => h1.cell (n := 1) (g := g.2.1) rfl k
    have e : (⟨g.2.1, 0, none⟩ : Addr).add j = ⟨g.2.1, j, none⟩ := by unfold Addr.add; split <;> simp_all
    rw [e, hc j]
    have hj' : j < 4 := hj
    have : j = 0 ∨ j = 1 ∨ j = 2 ∨ j = 3 := by omega
    rcases this with rfl | rfl | rfl | rfl <;> rfl)
theorem spr_C (h : SpR w0 g6 g5 g b w) (hb : b 2 = true) : Kd.C Kd.string w (some ⟨g.1, 0, none⟩) [zB, zB].length [zB, zB] := by
  have h1 := h.1
  rw [hb] at h1
  have hblk := h1.blk (n := 0) (g := g.1) rfl
  have hown : w.ownsRow 0 9 1 (.slice (some ⟨g.1, 0, none⟩) 2 2) [zB, zB].length (encs Value.string [zB, zB]) := ⟨rfl, .inr ⟨g.1, 2, _, rfl, Nat.zero_le _, hblk, by decide, by decide, rfl, rfl⟩⟩
  have hR : Kd.R Kd.string 9 w 0 (fun _ => True) (.slice (some ⟨g.1, 0, none⟩) 2 2) [zB, zB] := Kd.R_of_own hown (fun _ _ => trivial)
  exact (Kd.R_reads' hR).2.2
theorem spr_laid (h : SpR w0 g6 g5 g b w) (hb : b 18 = false) {u : Value} (hu : Kd.R Kd.string 9 w1 w.heap.size (fun _ => True) u [zB, frB]) (hb1 : Below w.heap.size w w1) : SpR w0 g6 g5 (g.1, g.2.1, u) (fun j => j == 18 || b j) w1 :=
  ⟨h.1.later hb1, fun _ => R_only (Kd.R_lower hu h.1.low)⟩
theorem spr_end (h : SpR w0 g6 g5 g b w) (h2 : b 2 = true) (h16 : b 16 = true) (h18 : b 18 = true) : StK w0.heap.size w0 w [(some g6, cpv (((List.replicate 16 0).set 2 2).set 3 3) 0, 25), (some g5, spv pgR, 29)] (fun _ => False) w ∧ Kd.R Kd.string 9 w w0.heap.size (fun k => g.2.2.ownBlock = some k) g.2.2 [zB, frB] :=
  ⟨StK.of_st (h.1.sub (.cons _ (.cons _ (List.Sublist.refl _)))), h.2 h18⟩
theorem may_convert_at {ops : Array Oper} {o : Oper} {af : Act} {Q : Exit → Act → World → Prop} {R : World → Prop} (hgd : o.guard = none) (S T : TypeId) (x : Operand) (ho : o.op = .convert S T x) (p : Value) (hx : af.eval x = p) (v : Value) (hr : (convert S T p).run Tryd.prog w = .ok v w) (hd : ∀ d, o.dst = some d → af.eval (.tmp d) = v) (K : R w) : OpMay Tryd.prog ops o af Q w R := by
  refine may_value (v := v) hgd ?_ hd K
  unfold execOp
  simp only [ho, hx, Sem.run_bind, hr, Result.andThen_ok]
  rfl
set_option maxHeartbeats 2000000 in
set_option maxRecDepth 100000 in
theorem speaks_calls (w : World) (hL : Laid w) : Calls Tryd.prog 6 #[] w fun e w' => e = .returned (.bool true) ∧ Below w.heap.size w w' := by
  have HS := Aside0.mk (St.start w)
  have HLD := Aside0.mk hL
  clear hL
  go_enter Tryd.func6, Tryd.ntmps6
  go_wp2_with (first | ((with_reducible refine gate_callee (f := 10) rfl ?_); refine goesL_ (some 13) rfl rfl Tryd.func10 (by kernel_rfl) rfl #[.string (⟨#[97, 100, 100]⟩ : ByteArray)] rfl (by (try simp only [List.map_toArray, List.map_cons, List.map_nil]); first | done | rfl) ?_; refine (isa_Op.calls 40 _ 1 true _ (laid_at HLD.out HS.out.below) add_op).mono ?_; rintro e w_ ⟨rfl, hb_⟩; refine ⟨_, rfl, ?_⟩; have hs_ := HS.out.later hb_; clear HS; have HS := Aside0.mk hs_; clear hs_; clear hb_) | ((with_reducible refine gate_callee (f := 11) rfl ?_); refine goesL_ (some 19) rfl rfl Tryd.func11 (by kernel_rfl) rfl #[.agg #[.int .u8 1, .int .u8 1, .int .u8 2, .int .u8 3, .int .i32 0]] rfl (by (try simp only [List.map_toArray, List.map_cons, List.map_nil]); first | done | rfl) ?_; refine (isa_Enc.calls 10 1 1 2 3 0 71876608 0 _ add_enc).mono ?_; rintro e w_ ⟨rfl, hb_⟩; refine ⟨_, rfl, ?_⟩; have hs_ := HS.out.later hb_; clear HS; have HS := Aside0.mk hs_; clear hs_; clear hb_) | ((with_reducible refine gate_dst (N := 23) rfl ?_); refine xl_val rfl (.agg (spv pgR)) (by kernel_rfl) ?_) | ((with_reducible refine gate_dst (N := 5) rfl ?_); refine xl_box HS.out rfl 5 rfl (spv pgO) 29 (by kernel_rfl) ?_; intro g5 w_ hs_; clear HS; have HS := Aside0.mk hs_; clear hs_) | ((with_reducible refine gate_store (t := 29) (p := 5) rfl ?_); refine xl_storeRow HS.out 0 g5 (spv pgO) 29 rfl rfl rfl 29 (.tmp 5) (.tmp 23) rfl rfl (spv pgR) rfl (by kernel_rfl) (by kernel_rfl) (by kernel_rfl) ?_; intro w_ hs_; clear HS; have HS := Aside0.mk hs_; clear hs_) | ((with_reducible refine gate_dst (N := 24) rfl ?_); refine xl_val rfl (.agg (cpv (List.replicate 16 0) 0)) (by kernel_rfl) ?_) | ((with_reducible refine gate_dst (N := 6) rfl ?_); refine xl_box HS.out rfl 6 rfl (Array.replicate 17 (.int .u32 0)) 25 ?hr ?_; (case hr => first | (go_simp; done) | (go_simp; rfl)); intro g6 w_ hs_; clear HS; have HS := Aside0.mk hs_; clear hs_) | ((with_reducible refine gate_store (t := 25) (p := 6) rfl ?_); refine xl_storeRow HS.out 0 g6 (Array.replicate 17 (.int .u32 0)) 25 rfl rfl rfl 25 (.tmp 6) (.tmp 24) rfl rfl (cpv (List.replicate 16 0) 0) rfl (by kernel_rfl) (by kernel_rfl) (by kernel_rfl) ?_; intro w_ hs_; clear HS; have HS := Aside0.mk hs_; clear hs_) | ((with_reducible refine gate_dst (N := 26) rfl ?_); refine xl_index rfl 23 (.tmp 25) (.const (.int .i64 2)) rfl (.pointer (some ⟨g6, 0, none⟩)) (.int .i64 2) rfl rfl (.pointer (some ⟨g6, 2, none⟩)) (fun w => idx23 g6 .i64 2 (by decide) (by decide) w) ?_) | ((with_reducible refine gate_store (t := 22) (p := 26) rfl ?_); refine xl_store HS.out 0 g6 (cpv (List.replicate 16 0) 0) 25 rfl rfl rfl 22 (.tmp 26) (.const (.int .u32 2)) rfl 2 rfl (.int .u32 2) rfl (by kernel_rfl) rfl (by decide) ?_; intro w_ hs_; rw [cpv_set 0 rfl (by decide)] at hs_; clear HS; have HS := Aside0.mk hs_; clear hs_) | ((with_reducible refine gate_dst (N := 28) rfl ?_); refine xl_index rfl 23 (.tmp 27) (.const (.int .i64 3)) rfl (.pointer (some ⟨g6, 0, none⟩)) (.int .i64 3) rfl rfl (.pointer (some ⟨g6, 3, none⟩)) (fun w => idx23 g6 .i64 3 (by decide) (by decide) w) ?_) | ((with_reducible refine gate_store (t := 22) (p := 28) rfl ?_); refine xl_store HS.out 0 g6 (cpv ((List.replicate 16 0).set 2 2) 0) 25 rfl rfl rfl 22 (.tmp 28) (.const (.int .u32 3)) rfl 3 rfl (.int .u32 3) rfl (by kernel_rfl) rfl (by decide) ?_; intro w_ hs_; rw [cpv_set 0 rfl (by decide)] at hs_; clear HS; have HS := Aside0.mk hs_; clear hs_))
  refine region_gh (Nat × Nat × Value) (0, 0, undef) (fun g => [(30, .string zB), (31, .string zB), (32, .slice (some ⟨g.1, 0, none⟩) 2 2), (33, .agg #[.bool true, .bool true, .int .i64 1]), (34, .agg (spv pgW)), (35, .int .u32 71876608), (36, .int .u8 0), (37, .int .u32 71876608), (38, .int .u32 280768), (39, .int .u8 192), (40, .int .u32 71876608), (41, .int .u32 1096), (42, .int .u8 72), (43, .int .u32 71876608), (44, .int .u32 4), (45, .int .u8 4), (46, .slice (some ⟨g.2.1, 0, none⟩) 4 4), (47, .string insB), (48, .tuple #[g.2.2, .bool true]), (29, .tuple #[g.2.2, .bool true]), (49, g.2.2), (50, .bool true), (7, g.2.2), (8, .bool true)]) (SpR w g6 g5) (by kernel_rfl) (by kernel_rfl) (fun g => by kernel_rfl) (fun g => by kernel_rfl) (spr_start HS.out.drew) (fun g af E => ⟨?_, ?_, ?_, ?_, ?_, ?_, ?_, ?_, ?_, ?_, ?_, ?_, ?_, ?_, ?_, ?_, ?_, ?_, ?_, ?_, ?_, ?_, ?_, ?_, trivial⟩) ?_
  · exact fun b w' _ _ _ h => gh_of_may E (may_goes rfl 9 _ Tryd.func9 (by kernel_rfl) rfl _ _ rfl #[.int .u8 0] (by rw [E]; (try simp only [List.map_toArray, List.map_cons, List.map_nil]); rfl) (.string zB) (fun d hd => by cases hd; rw [E]; rfl) ((hibernacletop_page.calls 200 0 zB w' page_zero).mono (fun e w2 he => ⟨he.1, (spr_later h he.2)⟩)))
  · exact fun b w' _ _ _ h => gh_of_may E (may_goes rfl 9 _ Tryd.func9 (by kernel_rfl) rfl _ _ rfl #[.int .u8 0] (by rw [E]; (try simp only [List.map_toArray, List.map_cons, List.map_nil]); rfl) (.string zB) (fun d hd => by cases hd; rw [E]; rfl) ((hibernacletop_page.calls 200 0 zB w' page_zero).mono (fun e w2 he => ⟨he.1, (spr_later h he.2)⟩)))
  · intro b w' hb _ _ h
    refine gh_buildSlice rfl 30 2 _ rfl #[(0, .string zB), (1, .string zB)] (by rw [E]; (try simp only [List.map_toArray, List.map_cons, List.map_nil]); rfl) (v := .slice (some ⟨w'.heap.size, 0, none⟩) 2 2) (w1 := w'.alloc (.cells #[.string zB, .string zB] 9 (0, 0))) (by kernel_rfl) ?_
    exact ⟨(w'.heap.size, g.2), spr_frames h hb, fun d hd => by cases hd; rfl, agree_of (by kernel_rfl) [(2, 32)] (by repeat (first | exact trivial | refine ⟨rfl, by first | exact .inl rfl | exact .inr (by decide), ?_⟩)) (by intro x hx; simp only [List.mem_cons, List.not_mem_nil, or_false] at hx; subst hx; exact ⟨hb, _, rfl, rfl⟩)⟩
  · exact fun b w' _ _ _ h => gh_of_may E (may_build rfl 27 _ rfl #[(0, .bool true), (1, .bool true), (2, .int .i64 1)] (by rw [E]; (try simp only [List.map_toArray, List.map_cons, List.map_nil]); rfl) (.agg #[.bool true, .bool true, .int .i64 1]) (fun w => by kernel_rfl) (fun d hd => by cases hd; rw [E]; rfl) h)
  · exact fun b w' _ _ _ h => gh_of_may E (may_build rfl 29 _ rfl #[(0, .agg #[.bool true, .bool true, .int .i64 1])] (by rw [E]; (try simp only [List.map_toArray, List.map_cons, List.map_nil]); rfl) (.agg (spv pgW)) (fun w => by kernel_rfl) (fun d hd => by cases hd; rw [E]; rfl) h)
  · exact fun b w' _ _ _ h => gh_of_may E (may_move rfl _ (by first | exact .inl rfl | exact .inr rfl) (.int .u32 71876608) (by rw [E]; rfl) (fun d hd => by cases hd; rw [E]; rfl) h)
  · exact fun b w' _ _ _ h => gh_of_may E (may_convert rfl 22 5 (.tmp 35) rfl (.int .u32 71876608) (by rw [E]; rfl) (.int .u8 0) (fun w => by kernel_rfl) (fun d hd => by cases hd; rw [E]; rfl) h)
  · exact fun b w' _ _ _ h => gh_of_may E (may_move rfl _ (by first | exact .inl rfl | exact .inr rfl) (.int .u32 71876608) (by rw [E]; rfl) (fun d hd => by cases hd; rw [E]; rfl) h)
  · exact fun b w' _ _ _ h => gh_of_may E (may_bin rfl .shr 22 51 (.tmp 37) (.const (.int .u64 8)) rfl (.int .u32 71876608) (.int .u64 8) (by rw [E]; rfl) (by rw [E]; rfl) (.int .u32 280768) rfl (fun w => by kernel_rfl) (fun d hd => by cases hd; rw [E]; rfl) h)
  · exact fun b w' _ _ _ h => gh_of_may E (may_convert rfl 22 5 (.tmp 38) rfl (.int .u32 280768) (by rw [E]; rfl) (.int .u8 192) (fun w => by kernel_rfl) (fun d hd => by cases hd; rw [E]; rfl) h)
  · exact fun b w' _ _ _ h => gh_of_may E (may_move rfl _ (by first | exact .inl rfl | exact .inr rfl) (.int .u32 71876608) (by rw [E]; rfl) (fun d hd => by cases hd; rw [E]; rfl) h)
  · exact fun b w' _ _ _ h => gh_of_may E (may_bin rfl .shr 22 51 (.tmp 40) (.const (.int .u64 16)) rfl (.int .u32 71876608) (.int .u64 16) (by rw [E]; rfl) (by rw [E]; rfl) (.int .u32 1096) rfl (fun w => by kernel_rfl) (fun d hd => by cases hd; rw [E]; rfl) h)
  · exact fun b w' _ _ _ h => gh_of_may E (may_convert rfl 22 5 (.tmp 41) rfl (.int .u32 1096) (by rw [E]; rfl) (.int .u8 72) (fun w => by kernel_rfl) (fun d hd => by cases hd; rw [E]; rfl) h)
  · exact fun b w' _ _ _ h => gh_of_may E (may_move rfl _ (by first | exact .inl rfl | exact .inr rfl) (.int .u32 71876608) (by rw [E]; rfl) (fun d hd => by cases hd; rw [E]; rfl) h)
  · exact fun b w' _ _ _ h => gh_of_may E (may_bin rfl .shr 22 51 (.tmp 43) (.const (.int .u64 24)) rfl (.int .u32 71876608) (.int .u64 24) (by rw [E]; rfl) (by rw [E]; rfl) (.int .u32 4) rfl (fun w => by kernel_rfl) (fun d hd => by cases hd; rw [E]; rfl) h)
  · exact fun b w' _ _ _ h => gh_of_may E (may_convert rfl 22 5 (.tmp 44) rfl (.int .u32 4) (by rw [E]; rfl) (.int .u8 4) (fun w => by kernel_rfl) (fun d hd => by cases hd; rw [E]; rfl) h)
  · intro b w' hb _ _ h
    refine gh_buildSlice rfl 52 4 _ rfl #[(0, .int .u8 0), (1, .int .u8 192), (2, .int .u8 72), (3, .int .u8 4)] (by rw [E]; (try simp only [List.map_toArray, List.map_cons, List.map_nil]); rfl) (v := .slice (some ⟨w'.heap.size, 0, none⟩) 4 4) (w1 := w'.alloc (.cells #[.int .u8 0, .int .u8 192, .int .u8 72, .int .u8 4] 5 (0, 0))) (by kernel_rfl) ?_
    exact ⟨(g.1, w'.heap.size, g.2.2), spr_bytes h hb, fun d hd => by cases hd; rfl, agree_of (by kernel_rfl) [(16, 46)] (by repeat (first | exact trivial | refine ⟨rfl, by first | exact .inl rfl | exact .inr (by decide), ?_⟩)) (by intro x hx; simp only [List.mem_cons, List.not_mem_nil, or_false] at hx; subst hx; exact ⟨hb, _, rfl, rfl⟩)⟩
  · intro b w' hb hn _ h
    exact gh_of_may E (may_convert_at rfl 52 9 (.tmp 46) rfl (.slice (some ⟨g.2.1, 0, none⟩) 4 4) (by rw [E]; rfl) (.string insB) (spr_text h (hn 16 (by decide))) (fun d hd => by cases hd; rw [E]; rfl) h)
  · intro b w' hb hn hcl h
    refine gh_goes rfl 12 _ Tryd.func12 (by kernel_rfl) rfl _ _ rfl #[.slice (some ⟨g.1, 0, none⟩) 2 2, .agg (spv pgW), .int .u32 0, .string insB] (by rw [E]; (try simp only [List.map_toArray, List.map_cons, List.map_nil]); rfl) ?_
    refine (Lay_calls w' (some ⟨g.1, 0, none⟩) 2 insB [zB, zB] [zB, frB] pgW 1 (spr_C h (hn 2 (by decide))) (by decide) (by decide) rfl ins_size find_w there_z lay_ins).mono ?_
    rintro e w2 ⟨u, rfl, hu, hb2⟩
    have n19 : b 19 = false := by cases h19 : b 19 with | false => rfl | true => have := hcl 19 _ rfl h19 18 (by decide); rw [hb] at this; cases this
    have n20 : b 20 = false := by cases h20 : b 20 with | false => rfl | true => have := hcl 20 _ rfl h20 19 (by decide); rw [n19] at this; cases this
    have n22 : b 22 = false := by cases h22 : b 22 with | false => rfl | true => have := hcl 22 _ rfl h22 20 (by decide); rw [n20] at this; cases this
    exact ⟨_, rfl, (g.1, g.2.1, u), spr_laid h hb hu hb2, fun d hd => by cases hd; rfl, agree_of (by kernel_rfl) [(18, 48), (19, 29), (20, 49), (22, 7)] (by repeat (first | exact trivial | refine ⟨rfl, by first | exact .inl rfl | exact .inr (by decide), ?_⟩)) (by intro x hx; simp only [List.mem_cons, List.not_mem_nil, or_false] at hx; rcases hx with rfl | rfl | rfl | rfl; exact ⟨hb, _, rfl, rfl⟩; exact ⟨n19, _, rfl, rfl⟩; exact ⟨n20, _, rfl, rfl⟩; exact ⟨n22, _, rfl, rfl⟩)⟩
  · exact fun b w' _ _ _ h => gh_of_may E (may_move rfl _ (by first | exact .inl rfl | exact .inr rfl) (.tuple #[g.2.2, .bool true]) (by rw [E]; rfl) (fun d hd => by cases hd; rw [E]; rfl) h)
  · exact fun b w' _ _ _ h => gh_of_may E (may_extract rfl (.tmp 29) 0 rfl (.tuple #[g.2.2, .bool true]) (by rw [E]; rfl) g.2.2 (fun w => rfl) (fun d hd => by cases hd; rw [E]; rfl) h)
  · exact fun b w' _ _ _ h => gh_of_may E (may_extract rfl (.tmp 29) 1 rfl (.tuple #[g.2.2, .bool true]) (by rw [E]; rfl) (.bool true) (fun w => rfl) (fun d hd => by cases hd; rw [E]; rfl) h)
  · exact fun b w' _ _ _ h => gh_of_may E (may_move rfl _ (by first | exact .inl rfl | exact .inr rfl) g.2.2 (by rw [E]; rfl) (fun d hd => by cases hd; rw [E]; rfl) h)
  · exact fun b w' _ _ _ h => gh_of_may E (may_move rfl _ (by first | exact .inl rfl | exact .inr rfl) (.bool true) (by rw [E]; rfl) (fun d hd => by cases hd; rw [E]; rfl) h)
  rintro ⟨gF, gB, u⟩ b w_ hall h
  have hs_ := spr_end h (hall 2 (by decide)) (hall 16 (by decide)) (hall 18 (by decide))
  clear HS
  have HK := Aside0.mk hs_.1
  have HO := Aside0.mk hs_.2
  clear hs_ h hall
  simp only [puts]
  obtain ⟨A, c, rfl, hc_, hC_⟩ := R_form HO.out
  have HC := Aside0.mk hc_
  have HR := Aside0.mk hC_
  clear hc_ hC_ HO
  go_wp2_with (first | ((with_reducible refine gate_dst (N := 52) rfl ?_); refine xl_loadRowK HK.out 0 g6 (cpv (((List.replicate 16 0).set 2 2).set 3 3) 0) 25 rfl rfl 25 (.tmp 6) rfl rfl (by kernel_rfl) (by kernel_rfl) ?_) | ((with_reducible refine gate_dst (N := 53) rfl ?_); refine xl_loadRowK HK.out 1 g5 (spv pgR) 29 rfl rfl 29 (.tmp 5) rfl rfl (by kernel_rfl) (by kernel_rfl) ?_) | ((with_reducible refine gate_callee (f := 7) rfl ?_); refine goesL_ (some 55) rfl rfl Tryd.func7 (by kernel_rfl) rfl #[.agg (cpv (((List.replicate 16 0).set 2 2).set 3 3) 0), .agg (spv pgR), .slice A [zB, frB].length c] rfl (by (try simp only [List.map_toArray, List.map_cons, List.map_nil]); first | done | rfl) ?_; refine (step_ex A c _ HR.out HC.out).mono ?_; rintro e w_ ⟨u2, rfl, _, hb_⟩; refine ⟨_, rfl, ?_⟩; have hs_ := HK.out.later hb_; clear HK HR; have HK := Aside0.mk hs_; clear hs_ hb_) | ((with_reducible refine gate_dst (N := 9) rfl ?_); refine xl_boxK HK.out rfl 9 rfl (Array.replicate 17 (.int .u32 0)) 25 ?hr ?_; (case hr => first | (go_simp; done) | (go_simp; rfl)); intro g9 w_ hs_; clear HK; have HK := Aside0.mk hs_; clear hs_) | ((with_reducible refine gate_dst (N := 11) rfl ?_); refine xl_boxK HK.out rfl 11 rfl #[.int .i64 0, .int .u32 0] 35 ?hr ?_; (case hr => first | (go_simp; done) | (go_simp; rfl)); intro g11 w_ hs_; clear HK; have HK := Aside0.mk hs_; clear hs_) | ((with_reducible refine gate_store (t := 25) (p := 9) rfl ?_); refine xl_storeRowK HK.out 1 g9 (Array.replicate 17 (.int .u32 0)) 25 rfl rfl rfl 25 (.tmp 9) (.tmp 56) rfl rfl (cpv rZ 4) rfl (by kernel_rfl) (by kernel_rfl) (by kernel_rfl) ?_; intro w_ hs_; clear HK; have HK := Aside0.mk hs_; clear hs_) | ((with_reducible refine gate_store (t := 35) (p := 11) rfl ?_); refine xl_storeRowK HK.out 0 g11 #[.int .i64 0, .int .u32 0] 35 rfl rfl rfl 35 (.tmp 11) (.tmp 58) rfl rfl #[.int .i64 0, .int .u32 0] rfl (by kernel_rfl) rfl (by simp [Value.oneCell']) ?_; intro w_ hs_; clear HK; have HK := Aside0.mk hs_; clear hs_; have x0 : w_.cell? ⟨g11, 0, none⟩ = some (.int .i64 0) := (HK.out.cell (n := 0) (g := g11) rfl 0).trans rfl; have x1 : w_.cell? ⟨g9, 1, none⟩ = some (.int .u32 5) := (HK.out.cell (n := 1) (g := g9) rfl 1).trans rfl; have x2 : w_.cell? ⟨g9, 16, none⟩ = some (.int .u32 4) := (HK.out.cell (n := 1) (g := g9) rfl 16).trans rfl))
  go_ret
  exact ⟨rfl, HK.out.st.below⟩
end Go.Proofs.YtiklcpacbclpnaaDoor.P
end
section
set_option linter.unusedVariables false
set_option linter.unusedSimpArgs false
namespace Go.Proofs.YtiklcpacbclpnaaDoor.P
open Go.RowKit Go.Proofs.YtiklcpacbclpnaaDoorW.PrintWords Go.Proofs.YtiklcpacbclpnaaDoorW.PrintLast Go.Proofs.YtiklcpacbclpnaaDoorW.PrintMore
def setIs (w : World) (b n : Nat) (S : Int → Bool) : Prop :=
  ∃ D : DataW Unit, w.ownsMap Tryd.prog 3 (plainElem Tryd.prog 4) b n D ∧ Go.Maps.IsMap D ∧ ∀ i : Int, D.atKey (.int .i64 i) (.lit (.bool false)) = .lit (.bool (S i))
theorem und3 : Tryd.prog.underlying 3 = some (.int .i64) := by kernel_rfl
theorem und4 : Tryd.prog.underlying 4 = some .bool := by kernel_rfl
theorem und33 : Tryd.prog.underlying 33 = some (.map 3 4) := by kernel_rfl
theorem zero4 (w : World) : (zeroValue 4).run Tryd.prog w = .ok (.bool false) w := by kernel_rfl
theorem setIs_kept {w w1 : World} {b n : Nat} {S : Int → Bool} (h : setIs w b n S) (hk : w1.heap[b]? = w.heap[b]?) : setIs w1 b n S := by
  obtain ⟨D, ⟨es, clock, hb, F, hs, hD⟩, hm, ha⟩ := h
  exact ⟨D, ⟨es, clock, hk.trans hb, F, hs, hD⟩, hm, ha⟩
theorem setIs_lt {w : World} {b n : Nat} {S : Int → Bool} (h : setIs w b n S) : b < w.heap.size := by
  obtain ⟨D, ho, _, _⟩ := h
  exact ho.lt
theorem setIs_made (w : World) : setIs (w.alloc (.map #[] 0)) w.heap.size 0 (fun _ => false) :=
  ⟨.map [], World.ownsMap_made w _ _ _, ⟨_, rfl⟩, fun _ => rfl⟩
theorem setIs_get {w : World} {b n : Nat} {S : Int → Bool} (h : setIs w b n S) (i : Int) (hi : (Lit.int .i64 i).wf = true) : (Instr.lookup 33 (.map (some b)) (.int .i64 i) false).run Tryd.prog w = .ok (.bool (S i)) w := by
  obtain ⟨D, ho, _, ha⟩ := h
  obtain ⟨v, ps, hrun, hv⟩ := ho.lookup (Go.Maps.int_keyed und3) und33 (zero4 w) (plainElem_bool und4 false) (Go.Maps.keyOf_int_mk und3 hi)
  rw [ha i] at hv
  rw [hrun]
  unfold plainElem at hv
  rw [und4] at hv
  cases v <;> simp at hv
  rw [hv.1]
theorem setIs_put {w : World} {b n : Nat} {S : Int → Bool} (h : setIs w b n S) (hn : n < maxLen) (i : Int) (hi : (Lit.int .i64 i).wf = true) : ∃ w1, (Instr.mapUpdate 33 (.map (some b)) (.int .i64 i) (.bool true)).run Tryd.prog w = .ok () w1 ∧ setIs w1 b (n + 1) (fun j => j == i || S j) ∧ w.grownBy w1 (some b) := by
  obtain ⟨D, ho, hm, ha⟩ := h
  obtain ⟨w1, hrun, h1, h2⟩ := ho.update (Go.Maps.int_keyed und3) und33 hn (Go.Maps.keyOf_int_mk und3 hi) (plainElem_bool und4 true)
  refine ⟨w1, hrun, ⟨_, h1, hm.put _ _, fun j => ?_⟩, h2⟩
  by_cases hj : j = i
  · subst hj
    rw [Go.Maps.atKey_put_same hm (by trivial)]
    simp
  · rw [Go.Maps.atKey_put_other (by intro e; injection e with _ e; exact hj e), ha j]
    have : (j == i) = false := by simpa using hj
    show _ = DataW.lit (Lit.bool (j == i || S j))
    rw [this, Bool.false_or]
end Go.Proofs.YtiklcpacbclpnaaDoor.P
end
section
set_option linter.unusedVariables false
set_option linter.unusedSimpArgs false
namespace Go.Proofs.YtiklcpacbclpnaaDoor.P
open Go.RowKit Go.Proofs.YtiklcpacbclpnaaDoorW.PrintWords Go.Proofs.YtiklcpacbclpnaaDoorW.PrintLast Go.Proofs.YtiklcpacbclpnaaDoorW.PrintMore
def ownB (s : List Pg) (j : Int) : Bool := s.any fun p => p.is && p.wr && j == p.fr
def seenB (s : List Pg) (j : Int) : Bool := s.any fun p => p.is && j == p.fr
theorem findT_page {s : List Pg} {at1 sz : Int} {wr : Bool} (h : (findT s at1 sz wr).2.2 = true) : ∃ p ∈ s, p.is = true ∧ (wr = true → p.wr = true) ∧ p.fr = (findT s at1 sz wr).1 := by
  unfold findT at h ⊢
  by_cases h1 : at1 ≥ 2048
  · rw [if_pos h1] at h; cases h
  rw [if_neg h1] at h ⊢
  by_cases h2 : at1 % sz ≠ 0
  · rw [if_pos h2] at h; cases h
  rw [if_neg h2] at h ⊢
  rw [List.getD_eq_getElem?_getD] at h ⊢
  cases hp : s[(at1 / 128).toNat]? with
  | none => rw [hp] at h; simp [entry] at h
  | some p =>
    rw [hp] at h
    simp only [Option.getD_some] at h ⊢
    unfold entry at h ⊢
    by_cases hc : (p.is && (!wr || p.wr)) = true
    · rw [if_pos hc]
      rw [Bool.and_eq_true] at hc
      refine ⟨p, List.mem_of_getElem? hp, hc.1, fun hw => ?_, rfl⟩
      have := hc.2
      rw [hw] at this
      simpa using this
    · rw [if_neg hc] at h; cases h
theorem ownB_of {s : List Pg} {p : Pg} (hp : p ∈ s) (h1 : p.is = true) (h2 : p.wr = true) : ownB s p.fr = true := List.any_eq_true.2 ⟨p, hp, by simp [h1, h2]⟩
theorem seenB_of {s : List Pg} {p : Pg} (hp : p ∈ s) (h1 : p.is = true) : seenB s p.fr = true := List.any_eq_true.2 ⟨p, hp, by simp [h1]⟩
theorem stored_own (l : List ByteArray) (s : List Pg) (at1 sz v : Int) (h : canStore l s at1 sz = true) (j : Nat) : (stored l s at1 sz v)[j]? = l[j]? ∨ ownB s j = true := by
  unfold canStore at h
  obtain ⟨hf, ht⟩ := Bool.and_eq_true_iff.1 h
  unfold thereB at ht
  obtain ⟨f0, f1, _⟩ := of_decide_eq_true ht
  obtain ⟨p, hp, h1, h2, h3⟩ := findT_page hf
  unfold stored
  by_cases hj : (findT s at1 sz true).1.toNat = j
  · right
    have : p.fr = (j : Int) := by omega
    rw [← this]
    exact ownB_of hp h1 (h2 rfl)
  · left
    exact List.getElem?_set_ne hj
theorem stored_length (l : List ByteArray) (s : List Pg) (at1 sz v : Int) : (stored l s at1 sz v).length = l.length := by unfold stored; simp
def Rok (R : List Int) : Prop := R.length = 16 ∧ (∀ x ∈ R, 0 ≤ x ∧ x < 4294967296)
theorem Rok.set {R : List Int} (h : Rok R) (k : Nat) {v : Int} (hv : 0 ≤ v ∧ v < 4294967296) : Rok (R.set k v) := ⟨by simp [h.1], set_in h.2 k hv⟩
theorem Rok.zero {R : List Int} (h : Rok R) (k : Nat) : Rok (R.set k 0) := h.set k (by omega)
theorem zero_at (R : List Int) : (R.set 0 0).getD 0 0 = 0 := by
  rw [List.getD_eq_getElem?_getD]
  cases R with
  | nil => rfl
  | cons x r => rfl
structure Good (l : List ByteArray) (s : List Pg) (R : List Int) (pc : Int) (o : Out) : Prop where
  rok : Rok o.R
  pc0 : 0 ≤ o.pc ∧ o.pc < 4294967296
  zero : R.getD 0 0 = 0 → o.R.getD 0 0 = 0
  len : o.l.length = l.length
  own : ∀ j : Nat, o.l[j]? = l[j]? ∨ ownB s j = true
  stay : (o.kind = 2 ∨ o.kind = 3) → o.R = R ∧ o.pc = pc ∧ o.l = l
  kinds : o.kind = 0 ∨ o.kind = 1 ∨ o.kind = 2 ∨ o.kind = 3
  n0 : 0 ≤ o.n ∧ o.n < 4294967296
theorem good_same {l : List ByteArray} {s : List Pg} {R : List Int} {pc : Int} (hR : Rok R) (hp : 0 ≤ pc ∧ pc < 4294967296) (k n : Int) (hk : k = 0 ∨ k = 1 ∨ k = 2 ∨ k = 3) (hn : 0 ≤ n ∧ n < 4294967296) : Good l s R pc ⟨R, pc, l, k, n⟩ :=
  ⟨hR, hp, id, rfl, fun _ => .inl rfl, fun _ => ⟨rfl, rfl, rfl⟩, hk, hn⟩
theorem good_ran {l l' : List ByteArray} {s : List Pg} {R R' : List Int} {pc pc' : Int} (hR : Rok R') (hp : 0 ≤ pc' ∧ pc' < 4294967296) (hl : l'.length = l.length) (ho : ∀ j : Nat, l'[j]? = l[j]? ∨ ownB s j = true) (k n : Int) (hk : k = 0 ∨ k = 1) (hn : 0 ≤ n ∧ n < 4294967296) : Good l s R pc ⟨R'.set 0 0, pc', l', k, n⟩ :=
  ⟨hR.zero 0, hp, fun _ => zero_at R', hl, ho, fun h => by dsimp only at h; omega, by dsimp only; omega, hn⟩
theorem good_ran' {l l' : List ByteArray} {s : List Pg} {R R' : List Int} {pc pc' : Int} (hR : Rok R') (hp : 0 ≤ pc' ∧ pc' < 4294967296) (hl : l'.length = l.length) (ho : ∀ j : Nat, l'[j]? = l[j]? ∨ ownB s j = true) (k n : Int) (hk : k = 0 ∨ k = 1) (hn : 0 ≤ n ∧ n < 4294967296) (hz : R'.getD 0 0 = 0) : Good l s R pc ⟨R', pc', l', k, n⟩ :=
  ⟨hR, hp, fun _ => hz, hl, ho, fun h => by dsimp only at h; omega, by dsimp only; omega, hn⟩
theorem good_done (l : List ByteArray) (s : List Pg) (R : List Int) (pc op oA oB oC im : Int) (hR : Rok R) (hp : 0 ≤ pc ∧ pc < 4294967296) : Good l s R pc (doneT l s R pc op oA oB oC im) := by
  have h1 := hR.zero 0
  have ha := getD_in h1.2 oA.toNat
  have hb := getD_in h1.2 oB.toNat
  have hc := getD_in h1.2 oC.toNat
  have hi := u32_in im
  have hP := u32_in (pc + 4)
  have z : (0 : Int) ≤ 0 ∧ (0 : Int) < 4294967296 := by omega
  unfold doneT
  dsimp only
  by_cases c13 : op ≤ 13
  · rw [if_pos c13]; exact good_ran (h1.set _ (rk_calls op _ _ hb.1 hb.2 hc.1 hc.2).1) hP rfl (fun _ => .inl rfl) _ _ (.inl rfl) z
  rw [if_neg c13]
  by_cases c18 : op ≤ 18
  · rw [if_pos c18]; exact good_ran (h1.set _ (rk_calls (alikeId op) _ _ hb.1 hb.2 hi.1 hi.2).1) hP rfl (fun _ => .inl rfl) _ _ (.inl rfl) z
  rw [if_neg c18]
  by_cases c19 : op = 19
  · rw [if_pos c19]; exact good_ran (h1.set _ (u32_in _)) hP rfl (fun _ => .inl rfl) _ _ (.inl rfl) z
  rw [if_neg c19]
  by_cases c22 : op ≤ 22
  · rw [if_pos c22]
    split
    · exact good_ran (h1.set _ (cloadT_in _ _ _ _)) hP rfl (fun _ => .inl rfl) _ _ (.inl rfl) z
    · exact good_same hR hp _ _ (by omega) (u32_in _)
  rw [if_neg c22]
  by_cases c24 : op ≤ 24
  · rw [if_pos c24]
    generalize (if op = 24 then (1 : Int) else 4) = sz
    by_cases hq : canStore l s (IntKind.u32.wrap ((R.set 0 0).getD oB.toNat 0 + IntKind.u32.wrap im)) sz = true
    · rw [if_pos hq]
      exact good_ran' h1 hP (stored_length _ _ _ _ _) (stored_own _ _ _ _ _ hq) _ _ (.inl rfl) z (zero_at R)
    · rw [if_neg hq]
      exact good_same hR hp _ _ (by omega) (u32_in _)
  rw [if_neg c24]
  by_cases c28 : op ≤ 28
  · rw [if_pos c28]
    split
    · exact good_ran' h1 (u32_in _) rfl (fun _ => .inl rfl) _ _ (.inl rfl) z (zero_at R)
    · exact good_ran' h1 hP rfl (fun _ => .inl rfl) _ _ (.inl rfl) z (zero_at R)
  rw [if_neg c28]
  by_cases c29 : op = 29
  · rw [if_pos c29]; exact good_ran (h1.set _ hP) (u32_in _) rfl (fun _ => .inl rfl) _ _ (.inl rfl) z
  rw [if_neg c29]
  by_cases c30 : op = 30
  · rw [if_pos c30]; exact good_ran (h1.set _ hP) (u32_in _) rfl (fun _ => .inl rfl) _ _ (.inl rfl) z
  rw [if_neg c30]
  exact good_ran' h1 hP rfl (fun _ => .inl rfl) _ _ (.inr rfl) hi (zero_at R)
theorem good_step (l : List ByteArray) (s : List Pg) (R : List Int) (pc : Int) (hR : Rok R) (hp : 0 ≤ pc ∧ pc < 4294967296) : Good l s R pc (stepT l s R pc) := by
  unfold stepT
  split
  · exact good_same hR hp _ _ (by omega) hp
  · split
    · exact good_same hR hp _ _ (by omega) (loadT_in _ _ _ _)
    · exact good_done _ _ _ _ _ _ _ _ _ hR hp
def Agree (s : List Pg) (l o : List ByteArray) : Prop := l.length = o.length ∧ ∀ j : Nat, seenB s j = true → l[j]? = o[j]?
theorem agree_there {s : List Pg} {l o : List ByteArray} (h : Agree s l o) {f : Int} (hs : seenB s f = true) : thereB l f = thereB o f ∧ (thereB l f = true → rdOf ByteArray.empty l f = rdOf ByteArray.empty o f) := by
  have key : 0 ≤ f → rdOf ByteArray.empty l f = rdOf ByteArray.empty o f := fun h0 => by
    have e := h.2 f.toNat (by rw [Int.toNat_of_nonneg h0]; exact hs)
    unfold rdOf
    simp only [List.getD_eq_getElem?_getD, e]
  refine ⟨?_, fun ht => ?_⟩
  · by_cases h0 : 0 ≤ f
    · unfold thereB
      rw [key h0, h.1]
    · unfold thereB
      rw [decide_eq_false (fun hx => h0 hx.1), decide_eq_false (fun hx => h0 hx.1)]
  · unfold thereB at ht
    exact key (of_decide_eq_true ht).1
theorem agree_load {s : List Pg} {l o : List ByteArray} (h : Agree s l o) (at1 sz : Int) : loadT getV l s at1 sz = loadT getV o s at1 sz := by
  unfold loadT
  by_cases hf : (findT s at1 sz false).2.2 = true
  · obtain ⟨p, hp, h1, _, h3⟩ := findT_page hf
    have hs := seenB_of hp h1
    rw [h3] at hs
    by_cases ht : thereB l (findT s at1 sz false).1 = true
    · obtain ⟨e1, e2⟩ := agree_there h hs
      rw [if_pos ⟨hf, ht⟩, if_pos ⟨hf, by rw [← e1]; exact ht⟩, e2 ht]
    · have e1 := (agree_there h hs).1
      rw [if_neg (fun hx => ht hx.2), if_neg (fun hx => ht (by rw [e1]; exact hx.2))]
  · rw [if_neg (fun hx => hf hx.1), if_neg (fun hx => hf hx.1)]
theorem agree_cload {s : List Pg} {l o : List ByteArray} (h : Agree s l o) (op at1 : Int) : cloadT getV op l s at1 = cloadT getV op o s at1 := by
  unfold cloadT
  rw [agree_load h, agree_load h]
theorem agree_can {s : List Pg} {l o : List ByteArray} (h : Agree s l o) (at1 sz : Int) : canStore l s at1 sz = canStore o s at1 sz := by
  unfold canStore
  by_cases hf : (findT s at1 sz true).2.2 = true
  · obtain ⟨p, hp, h1, _, h3⟩ := findT_page hf
    have hs := seenB_of hp h1
    rw [h3] at hs
    rw [(agree_there h hs).1]
  · have : (findT s at1 sz true).2.2 = false := by simpa using hf
    rw [this, Bool.false_and, Bool.false_and]
theorem agree_stored {s : List Pg} {l o : List ByteArray} (h : Agree s l o) (at1 sz v : Int) (hc : canStore l s at1 sz = true) : Agree s (stored l s at1 sz v) (stored o s at1 sz v) := by
  refine ⟨by rw [stored_length, stored_length, h.1], fun j hj => ?_⟩
  unfold canStore at hc
  obtain ⟨hf, ht⟩ := Bool.and_eq_true_iff.1 hc
  obtain ⟨p, hp, h1, _, h3⟩ := findT_page hf
  have hs := seenB_of hp h1
  rw [h3] at hs
  unfold stored
  rw [(agree_there h hs).2 ht]
  by_cases hk : (findT s at1 sz true).1.toNat = j
  · rw [hk]
    simp [List.getElem?_set, h.1]
  · rw [List.getElem?_set_ne hk, List.getElem?_set_ne hk]
    exact h.2 j hj
def Alike (s : List Pg) (a b : Out) : Prop := a.R = b.R ∧ a.pc = b.pc ∧ a.kind = b.kind ∧ a.n = b.n ∧ Agree s a.l b.l
theorem agree_done {s : List Pg} {l o : List ByteArray} (h : Agree s l o) (R : List Int) (pc op oA oB oC im : Int) : Alike s (doneT l s R pc op oA oB oC im) (doneT o s R pc op oA oB oC im) := by
  unfold doneT
  dsimp only
  have hh : ∀ (R : List Int) (pc k n : Int), Alike s ⟨R, pc, l, k, n⟩ ⟨R, pc, o, k, n⟩ := fun _ _ _ _ => ⟨rfl, rfl, rfl, rfl, h⟩
  by_cases c13 : op ≤ 13
  · rw [if_pos c13, if_pos c13]; exact hh _ _ _ _
  rw [if_neg c13, if_neg c13]
  by_cases c18 : op ≤ 18
  · rw [if_pos c18, if_pos c18]; exact hh _ _ _ _
  rw [if_neg c18, if_neg c18]
  by_cases c19 : op = 19
  · rw [if_pos c19, if_pos c19]; exact hh _ _ _ _
  rw [if_neg c19, if_neg c19]
  by_cases c22 : op ≤ 22
  · rw [if_pos c22, if_pos c22, agree_cload h]
    split <;> exact hh _ _ _ _
  rw [if_neg c22, if_neg c22]
  by_cases c24 : op ≤ 24
  · rw [if_pos c24, if_pos c24, ← agree_can h]
    generalize (if op = 24 then (1 : Int) else 4) = sz
    by_cases hq : canStore l s (IntKind.u32.wrap ((R.set 0 0).getD oB.toNat 0 + IntKind.u32.wrap im)) sz = true
    · rw [if_pos hq, if_pos hq]
      exact ⟨rfl, rfl, rfl, rfl, agree_stored h _ _ _ hq⟩
    · rw [if_neg hq, if_neg hq]
      exact hh _ _ _ _
  rw [if_neg c24, if_neg c24]
  by_cases c28 : op ≤ 28
  · rw [if_pos c28, if_pos c28]
    split <;> exact hh _ _ _ _
  rw [if_neg c28, if_neg c28]
  by_cases c29 : op = 29
  · rw [if_pos c29, if_pos c29]; exact hh _ _ _ _
  rw [if_neg c29, if_neg c29]
  by_cases c30 : op = 30
  · rw [if_pos c30, if_pos c30]; exact hh _ _ _ _
  rw [if_neg c30, if_neg c30]
  exact hh _ _ _ _
theorem agree_step {s : List Pg} {l o : List ByteArray} (h : Agree s l o) (R : List Int) (pc : Int) : Alike s (stepT l s R pc) (stepT o s R pc) := by
  have hh : ∀ (R : List Int) (pc k n : Int), Alike s ⟨R, pc, l, k, n⟩ ⟨R, pc, o, k, n⟩ := fun _ _ _ _ => ⟨rfl, rfl, rfl, rfl, h⟩
  unfold stepT
  rw [agree_load h]
  split
  · exact hh _ _ _ _
  · split
    · exact hh _ _ _ _
    · exact agree_done h _ _ _ _ _ _ _
end Go.Proofs.YtiklcpacbclpnaaDoor.P
end
section
set_option linter.unusedVariables false
set_option linter.unusedSimpArgs false
namespace Go.Proofs.YtiklcpacbclpnaaDoor.P
open Go.RowKit Go.Proofs.YtiklcpacbclpnaaDoorW.PrintWords Go.Proofs.YtiklcpacbclpnaaDoorW.PrintLast Go.Proofs.YtiklcpacbclpnaaDoorW.PrintMore
theorem part_int {e : TypeId} {k : IntKind} {cs : Array Value} {i : Nat} {n : Int} (he : Tryd.prog.underlying e = some (.int k)) (h : cs[i]? = some (.int k n)) (w : World) : (part e cs i).run Tryd.prog w = .ok (.int k n) w := by
  have hagg : (isAgg e).run Tryd.prog w = .ok false w := by
    unfold isAgg
    rw [Sem.run_bind, run_underlying he w]
    rfl
  unfold part
  simp [Sem.run_bind, hagg, h]
theorem forIn_same {β : Type} (w : World) (init : β) (f : Nat → β → Sem (ForInStep β)) : ∀ (l : List Nat), (∀ i ∈ l, (f i init).run Tryd.prog w = .ok (.yield init) w) → (forIn l init f).run Tryd.prog w = .ok init w
  | [], _ => rfl
  | i :: r, h => by
    rw [List.forIn_cons, Sem.run_bind, h i List.mem_cons_self, Result.andThen_ok]
    exact forIn_same w init f r (fun j hj => h j (List.mem_cons_of_mem _ hj))
theorem eq_array_same (d : Nat) (t len e : TypeId) (k : IntKind) (cs : Array Value) (w : World) (hu : Tryd.prog.underlying t = some (.array len e)) (he : Tryd.prog.underlying e = some (.int k)) (hs : (sizeOf e).run Tryd.prog w = .ok 1 w) (hc : ∀ i, i < len → ∃ n, cs[i]? = some (.int k n)) :
    (Op.equalIn (d + 2) t (.agg cs) (.agg cs)).run Tryd.prog w = .ok true w := by
  rw [Op.equalIn]
  simp only [Sem.run_bind, run_underlying hu w, Result.andThen_ok, hs]
  rw [Std.Legacy.Range.forIn_eq_forIn_range']
  rw [forIn_same w]
  · rfl
  · intro i hi
    have hi' : i < len := by
      simp [Std.Legacy.Range.size] at hi
      omega
    obtain ⟨n, hn⟩ := hc i hi'
    simp [Sem.run_bind, part_int he hn w, run_equalIn_int w d e k k n n he]
end Go.Proofs.YtiklcpacbclpnaaDoor.P
namespace Go.Proofs.YtiklcpacbclpnaaDoor.P
open Go.RowKit Go.Proofs.YtiklcpacbclpnaaDoorW.PrintWords Go.Proofs.YtiklcpacbclpnaaDoorW.PrintLast Go.Proofs.YtiklcpacbclpnaaDoorW.PrintMore
theorem size_run {t : TypeId} {n : Nat} (h : (Tryd.prog.info? t).map (·.size) = some n) (w : World) : (sizeOf t).run Tryd.prog w = .ok n w := by
  cases hq : Tryd.prog.info? t with
  | none => rw [hq] at h; cases h
  | some i => rw [hq] at h; injection h with h; simp [sizeOf, typeInfo, hq, h]
theorem part_agg {t : TypeId} {n : Nat} {cs : Array Value} {off : Nat} (ht : rowB Tryd.prog t = true) (hs : (Tryd.prog.info? t).map (·.size) = some n) (w : World) : (part t cs off).run Tryd.prog w = .ok (.agg (cs.extract off (off + n))) w := by
  unfold rowB at ht
  have hagg : (isAgg t).run Tryd.prog w = .ok true w := by
    unfold isAgg
    cases hu : Tryd.prog.underlying t with
    | none => rw [hu] at ht; cases ht
    | some d =>
      rw [hu] at ht
      rw [Sem.run_bind, run_underlying hu w]
      cases d <;> simp_all
  unfold part
  simp [Sem.run_bind, hagg, size_run hs w]
theorem cpv_regs {R : List Int} (pc : Int) (h : R.length = 16) (i : Nat) (hi : i < 16) : ((cpv R pc).extract 0 (0 + 16))[i]? = some (.int .u32 (R.getD i 0)) := by
  rw [Array.getElem?_extract]
  simp only [cpv_size pc h, Nat.zero_add]
  rw [if_pos (by omega)]
  exact cpv_at pc h hi
set_option maxRecDepth 100000 in
theorem eq_cpu {R : List Int} (pc : Int) (h : R.length = 16) (w : World) : (Op.equalIn 10000 25 (.agg (cpv R pc)) (.agg (cpv R pc))).run Tryd.prog w = .ok true w := by
  have hu := Tryd.underlying25
  refine eqA_of (d := 9999) hu (by kernel_rfl) ?_
  refine eqf_end (a := .agg ((cpv R pc).extract 0 (0 + 16))) (b := .agg ((cpv R pc).extract 0 (0 + 16))) rfl (part_agg (by kernel_rfl) (by kernel_rfl) w) (part_agg (by kernel_rfl) (by kernel_rfl) w) ?_ ?_
  · exact eq_array_same 9997 23 16 22 .u32 _ w (by kernel_rfl) (by kernel_rfl) (size_run (by kernel_rfl) w) (fun i hi => ⟨_, cpv_regs pc h i hi⟩)
  · refine eqf_last (a := .int .u32 pc) (b := .int .u32 pc) rfl (part_int (k := .u32) (by kernel_rfl) (cpv_pc pc h) w) (part_int (k := .u32) (by kernel_rfl) (cpv_pc pc h) w) ?_
    rw [run_equalIn_int w 9998 22 .u32 .u32 pc pc (by kernel_rfl)]
    simp
theorem neq_cpu {R : List Int} (pc : Int) (h : R.length = 16) (w : World) : (binOp .neq 25 (.agg (cpv R pc)) (.agg (cpv R pc))).run Tryd.prog w = .ok (.bool false) w := by
  rw [run_neq_struct, eq_cpu pc h w]
  rfl
set_option maxRecDepth 100000 in
theorem neq_event (k n : Int) (w : World) : (binOp .neq 35 (.agg #[.int .i64 k, .int .u32 n]) (.agg #[.int .i64 k, .int .u32 n])).run Tryd.prog w = .ok (.bool false) w := by
  have e : (Op.equalIn 10000 35 (.agg #[.int .i64 k, .int .u32 n]) (.agg #[.int .i64 k, .int .u32 n])).run Tryd.prog w = .ok true w := by
    have hu := Tryd.underlying35
    refine eqA_of (d := 9999) hu (by kernel_rfl) ?_
    refine eqf_end (a := .int .i64 k) (b := .int .i64 k) rfl (part_int (k := .i64) (by kernel_rfl) rfl w) (part_int (k := .i64) (by kernel_rfl) rfl w) ?_ ?_
    · rw [run_equalIn_int w 9998 3 .i64 .i64 k k (by kernel_rfl)]
      simp
    · refine eqf_last (a := .int .u32 n) (b := .int .u32 n) rfl (part_int (k := .u32) (by kernel_rfl) rfl w) (part_int (k := .u32) (by kernel_rfl) rfl w) ?_
      rw [run_equalIn_int w 9998 22 .u32 .u32 n n (by kernel_rfl)]
      simp
  rw [run_neq_struct, e]
  rfl
end Go.Proofs.YtiklcpacbclpnaaDoor.P
end
section
set_option linter.unusedVariables false
set_option linter.unusedSimpArgs false
namespace Go.Proofs.YtiklcpacbclpnaaDoor.P
open Go.RowKit Go.Proofs.YtiklcpacbclpnaaDoorW.PrintWords Go.Proofs.YtiklcpacbclpnaaDoorW.PrintLast Go.Proofs.YtiklcpacbclpnaaDoorW.PrintMore
section
variable {P : Program} {ops : Array Oper} {rest : List Oper} {o : Oper} {a af : Act} {Q : Exit → Act → World → Prop} {w : World} {R : World → Prop}
theorem xl_guard (hw : Region.wanted o (yielded ops a.tmps) = true) (h : wpList P ops Q ({ o with guard := none } :: rest) a w) : wpList P ops Q (o :: rest) a w := by
  unfold wpList at h ⊢
  rw [if_pos hw]
  rw [if_pos (by simp [Region.wanted])] at h
  exact h
theorem may_guard (hw : Region.wanted o (yielded ops af.tmps) = true) (h : OpMay P ops { o with guard := none } af Q w R) : OpMay P ops o af Q w R := by
  unfold OpMay at h ⊢
  rw [if_pos hw]
  rw [if_pos (by simp [Region.wanted])] at h
  exact h
theorem may_unwanted (hw : Region.wanted o (yielded ops af.tmps) = false) (hd : ∀ d, o.dst = some d → af.eval (.tmp d) = undef) (h : R w) : OpMay P ops o af Q w R := by
  unfold OpMay
  rw [if_neg (by rw [hw]; decide)]
  exact ⟨hd, h⟩
theorem wanted_of {g : Nat} {want b : Bool} {p : Oper} {t : Tmp} (hg : o.guard = some (g, want)) (hp : ops[g]? = some p) (ht : p.dst = some t) (hv : af.eval (.tmp t) = .bool b) : Region.wanted o (yielded ops af.tmps) = (b == want) := by
  have hy : yielded ops af.tmps g = some b := by
    unfold yielded
    rw [hp]
    simp only [Option.bind_some, ht]
    simp only [Act.eval, Array.getD_eq_getD_getElem?] at hv
    cases hq : af.tmps[t]? with
    | none => rw [hq] at hv; cases hv
    | some v => rw [hq] at hv; simp only [Option.getD_some] at hv; rw [hv]
  unfold Region.wanted
  rw [hg]
  simp only [hy]
  cases b <;> cases want <;> rfl
theorem may_pick (hgd : o.guard = none) (c x y : Operand) (ho : o.op = .pick c x y) (b : Bool) (hc : af.eval c = .bool b) (v : Value) (hv : (if b then af.eval x else af.eval y) = v) (hd : ∀ d, o.dst = some d → af.eval (.tmp d) = v) (K : R w) : OpMay P ops o af Q w R := by
  refine may_value (v := v) hgd ?_ hd K
  unfold execOp
  simp only [ho, hc]
  subst hv
  cases b <;> rfl
theorem may_lookup (hgd : o.guard = none) (T : TypeId) (x y : Operand) (ok : Bool) (ho : o.op = .lookup T x y ok) (p q : Value) (hx : af.eval x = p) (hy : af.eval y = q) (v : Value) (hr : (Instr.lookup T p q ok).run P w = .ok v w) (hd : ∀ d, o.dst = some d → af.eval (.tmp d) = v) (K : R w) : OpMay P ops o af Q w R := by
  refine may_value (v := v) hgd ?_ hd K
  unfold execOp
  simp only [ho, hx, hy, Sem.run_bind, hr, Result.andThen_ok]
  rfl
theorem run_load_cell {T : TypeId} {ad : Addr} {v : Value} (hT : scalarB P T = true) (hc : w.cell? ad = some v) : (Instr.loadAt T (.pointer (some ad))).run P w = .ok v w := by
  unfold scalarB at hT
  cases hu : P.underlying T with
  | none => rw [hu] at hT; cases hT
  | some d =>
    have hagg : (isAgg T).run P w = .ok false w := by
      unfold isAgg
      rw [Sem.run_bind, run_underlying hu w]
      rw [hu] at hT
      cases d <;> simp_all
    simp [Instr.loadAt, Instr.sureAddr, loadVar, Sem.run_bind, hagg, hc]
theorem may_loadc (hgd : o.guard = none) (T : TypeId) (x : Operand) (ho : o.op = .load T x) (ad : Addr) (hx : af.eval x = .pointer (some ad)) (hT : scalarB P T = true) (v : Value) (hc : w.cell? ad = some v) (hd : ∀ d, o.dst = some d → af.eval (.tmp d) = v) (K : R w) : OpMay P ops o af Q w R := by
  refine may_value (v := v) hgd ?_ hd K
  unfold execOp
  simp only [ho, hx, Sem.run_bind, run_load_cell hT hc, Result.andThen_ok]
  rfl
theorem run_eqGuard_agg {t : TypeId} (h : P.eqGuardType P.depth t = false) (b : BinOp) (x y : Operand) (xs ys : Array Value) : (eqGuard b t x y (.agg xs) (.agg ys)).run P w = .ok () w := by
  unfold eqGuard
  simp [Sem.run_bind, h]
theorem xl_eqrow (hgd : o.guard = none) (b : BinOp) (T U : TypeId) (x y : Operand) (ho : o.op = .binOp b T x y U) (xs ys : Array Value) (hx : a.eval x = .agg xs) (hy : a.eval y = .agg ys) (hg : P.eqGuardType P.depth T = false) (v : Value) (hr : (binOp b T (.agg xs) (.agg ys)).run P w = .ok v w) (K : wpList P ops Q rest (a.put o.dst v) w) : wpList P ops Q (o :: rest) a w := by
  refine Kd.event_run (v := v) hgd ?_ K
  unfold execOp
  simp only [ho, hx, hy, Sem.run_bind, run_eqGuard_agg hg, hr, Result.andThen_ok]
  rfl
theorem xl_lookup (hgd : o.guard = none) (T : TypeId) (x y : Operand) (ok : Bool) (ho : o.op = .lookup T x y ok) (p q : Value) (hx : a.eval x = p) (hy : a.eval y = q) (v : Value) (hr : (Instr.lookup T p q ok).run P w = .ok v w) (K : wpList P ops Q rest (a.put o.dst v) w) : wpList P ops Q (o :: rest) a w := by
  refine Kd.event_run (v := v) hgd ?_ K
  unfold execOp
  simp only [ho, hx, hy, Sem.run_bind, hr, Result.andThen_ok]
  rfl
end
section
variable {ops : Array Oper} {rest : List Oper} {o : Oper} {a : Act} {Q : Exit → Act → World → Prop} {B : Nat} {w0 w wK : World} {bs : List Blk}
theorem xl_makeSet (h : St B w0 w bs) (hgd : o.guard = none) (N : Tmp) (hN : o.dst = some N) (hrun : (execOp a.eval o).run Tryd.prog w = .ok (.value (.map (some w.heap.size))) (w.alloc (.map #[] 0)))
    (KK : ∀ gm w1, StK B w0 w1 bs (fun g => g = gm) w1 → setIs w1 gm 0 (fun _ => false) → B ≤ gm → wpList Tryd.prog ops Q rest (a.put (some N) (.map (some gm))) w1) : wpList Tryd.prog ops Q (o :: rest) a w := by
  rw [← hN] at KK
  refine Kd.event_run hgd hrun (KK _ _ ⟨h.later (below_alloc (Below.refl _ _) _), fun k hk => ?_, fun x hx g hg hk => ?_⟩ (setIs_made w) h.low)
  · subst hk
    exact ⟨by simp, rfl⟩
  · have := h.lt hx hg
    omega
theorem xl_setPut {gm n : Nat} {S : Int → Bool} (h : StK B w0 w bs (fun g => g = gm) wK) (hs : setIs wK gm n S) (hb : B ≤ gm) (hn : n < maxLen) (hgd : o.guard = none) (hN : o.dst = none) (m x v : Operand) (ho : o.op = .mapUpdate 33 m x v) (hm : a.eval m = .map (some gm)) (i : Int) (hx : a.eval x = .int .i64 i) (hv : a.eval v = .bool true) (hi : (Lit.int .i64 i).wf = true)
    (KK : ∀ w1, StK B w0 w1 bs (fun g => g = gm) w1 → setIs w1 gm (n + 1) (fun j => j == i || S j) → wpList Tryd.prog ops Q rest a w1) : wpList Tryd.prog ops Q (o :: rest) a w := by
  have hs1 := setIs_kept hs (h.held gm rfl).2
  obtain ⟨w1, hrun, h1, h2⟩ := setIs_put hs1 hn i hi
  refine wpList_plain hgd fun K' hK => ?_
  unfold Oper.wp execOp
  simp only [ho, hm, hx, hv, Sem.run_bind, hrun, Result.andThen_ok]
  show K' (a.put o.dst undef) w1
  rw [hN]
  refine hK _ _ (KK w1 ⟨h.st.grown h2 (fun k hk => ?_), fun k hk => ?_, h.far⟩ h1)
  · injection hk with hk
    subst hk
    exact ⟨hb, fun x hx e => h.far x hx _ e rfl⟩
  · subst hk
    exact ⟨setIs_lt h1, rfl⟩
end
theorem pgs_index {s : List Pg} {k : Nat} {p : Pg} (h : s[k]? = some p) : (spv s).extract (k * 3) (k * 3 + 3) = #[.bool p.is, .bool p.wr, .int .i64 p.fr] := by
  obtain ⟨q0, q1, q2⟩ := pgs_at s k p h
  apply Array.ext_getElem?
  intro i
  rw [Array.getElem?_extract]
  have hlen : ∀ (s : List Pg), (pgs s).length = s.length * 3 := by
    intro s
    induction s with
    | nil => rfl
    | cons x r ih =>
      have e : pgs (x :: r) = .bool x.is :: .bool x.wr :: .int .i64 x.fr :: pgs r := rfl
      rw [e]
      simp only [List.length_cons, ih]
      omega
  have hk := (List.getElem?_eq_some_iff.1 h).1
  have hsz : (spv s).size = s.length * 3 := by unfold spv; simp [hlen]
  have hget : ∀ j : Nat, (spv s)[j]? = (pgs s)[j]? := fun j => by unfold spv; simp
  by_cases hi : i < 3
  · rw [if_pos (by rw [hsz]; omega), hget]
    have : i = 0 ∨ i = 1 ∨ i = 2 := by omega
    rcases this with rfl | rfl | rfl
    · rw [Nat.mul_comm, Nat.add_zero, q0]; rfl
    · rw [Nat.mul_comm, q1]; rfl
    · rw [Nat.mul_comm, q2]; rfl
  · rw [if_neg (by omega)]
    exact (Array.getElem?_eq_none (by simp; omega)).symm
theorem index29 {s : List Pg} {k : Nat} {p : Pg} (h : s[k]? = some p) (hk : k < 16) (w : World) : (Instr.index 29 (.agg (spv s)) (.int .i64 k)).run Tryd.prog w = .ok (.agg #[.bool p.is, .bool p.wr, .int .i64 p.fr]) w := by
  have hu := Tryd.underlying29
  unfold Instr.index
  simp only [asIntOf, Sem.run_bind, Sem.run_pure, Result.andThen_ok, run_underlying hu w]
  rw [if_pos ⟨by omega, by omega⟩]
  simp only [Sem.run_bind, size_run (t := 27) (n := 3) (by kernel_rfl) w, Result.andThen_ok]
  rw [part_agg (by kernel_rfl) (n := 3) (by kernel_rfl) w, Int.toNat_natCast, pgs_index h]
set_option maxRecDepth 100000 in
theorem idx30 (ad : Addr) (n c : Nat) (i : Int) (h0 : 0 ≤ i) (h1 : i < n) (w : World) : (Instr.indexAt 30 (.slice (some ad) n c) (.int .i64 i)).run Tryd.prog w = .ok (.pointer (some (ad.add i.toNat))) w := by
  have hs := size_run (t := Tryd.prog.elem 30) (n := 1) (by kernel_rfl) w
  rw [run_indexAt_slice w 30 ad n c .i64 i (by kernel_rfl), if_pos ⟨h0, h1⟩, hs]
  show Result.ok _ _ = _
  rw [Nat.mul_one]
theorem neq9 (x y : ByteArray) (w : World) : (binOp .neq 9 (.string x) (.string y)).run Tryd.prog w = .ok (.bool (!(x.toList == y.toList))) w := by
  rw [binOp_string_neq]
  rfl
theorem drawn_below {w w1 : World} (h : Drawn0 w w1) : Below w.heap.size w w1 := by
  obtain ⟨n, rfl⟩ := h.out
  exact ⟨rfl, rfl, rfl, Nat.le_refl _, fun _ _ => rfl⟩
section
variable {ops : Array Oper} {rest : List Oper} {o : Oper} {a : Act} {Q : Exit → Act → World → Prop} {B : Nat} {w0 w wK : World} {bs : List Blk} {K : Nat → Prop}
theorem xl_emptyRow (h : StK B w0 w bs K wK) (hgd : o.guard = none) (N : Tmp) (hN : o.dst = some N) (hrun : (execOp a.eval o).run Tryd.prog w = .ok (.value (.slice (some ⟨w.heap.size, 0, none⟩) 0 0)) (w.alloc (.cells #[] 9 (0, 0))))
    (KK : ∀ g w1, StK B w0 w1 ((some g, #[], 9) :: bs) K wK → wpList Tryd.prog ops Q rest (a.put (some N) (.slice (some ⟨g, 0, none⟩) 0 0)) w1) : wpList Tryd.prog ops Q (o :: rest) a w := by
  rw [← hN] at KK
  exact Kd.event_run hgd hrun (KK _ _ (h.alloc #[] 9))
theorem empty_R {g : Nat} (h : StK B w0 w ((some g, #[], 9) :: bs) K wK) : Kd.R Kd.string 9 w B (fun _ => True) (.slice (some ⟨g, 0, none⟩) 0 0) [] :=
  Kd.R_of_own ⟨rfl, .inr ⟨g, 0, #[], rfl, (h.st.own _ List.mem_cons_self g rfl).1, h.blk (n := 0) rfl, Nat.le_refl _, by decide, rfl, rfl⟩⟩ (fun _ _ => trivial)
theorem was_add {w1 : World} {g0 : Nat} {v : Value} {l : List ByteArray} {ok : Nat → Prop} (h : StK B w0 w ((some g0, #[], 9) :: bs) K wK) (ho : Kd.R Kd.string 9 w1 B ok v ([] ++ l)) (hg : w.grownBy w1 (Value.slice (some ⟨g0, 0, none⟩) 0 0).ownBlock) (hf : v.ownBlock = (Value.slice (some ⟨g0, 0, none⟩) 0 0).ownBlock ∨ ∃ b, v.ownBlock = some b ∧ w.heap.size ≤ b) :
    StK B w0 w1 bs (fun k => K k ∨ v.ownBlock = some k) w1 ∧ Kd.R Kd.string 9 w1 B (fun k => v.ownBlock = some k) v l ∧ ∀ k, K k → w1.heap[k]? = wK.heap[k]? := by
  rw [List.nil_append] at ho
  have hg0 : (Value.slice (some ⟨g0, 0, none⟩) 0 0).ownBlock = some g0 := rfl
  rw [hg0] at hg hf
  have hap := (List.pairwise_cons.1 h.st.apart).1
  have hK0 : ¬ K g0 := h.far _ List.mem_cons_self g0 rfl
  have h1 : StK B w0 w1 bs K wK := (h.sub (.cons _ (List.Sublist.refl _))).grown hg (fun k hk => by injection hk with hk; subst hk; exact ⟨(h.st.own _ List.mem_cons_self _ rfl).1, fun x hx e => hap x hx _ rfl e, hK0⟩)
  refine ⟨stk_hold h1 (fun k hk => ?_), R_only ho, fun k hk => (h1.held k hk).2⟩
  rcases hk with hk | hk
  · exact ⟨(h1.held k hk).1, fun x hx e => h1.far x hx k e hk⟩
  · refine ⟨(own_lt ho hk).2, fun x hx e => ?_⟩
    rcases hf with hf | ⟨b, hf, hb⟩
    · rw [hk] at hf
      injection hf with hf
      subst hf
      exact hap x hx _ rfl e
    · rw [hk] at hf
      injection hf with hf
      subst hf
      have := (h.sub (.cons _ (List.Sublist.refl _)) : StK B w0 w bs K wK).st.lt hx e
      omega
theorem stk_new {w1 : World} {u : Value} {l : List ByteArray} (h : StK B w0 w bs K wK) (hu : Kd.R Kd.string 9 w1 w.heap.size (fun _ => True) u l) (hb : Below w.heap.size w w1) :
    StK B w0 w1 bs (fun k => K k ∨ u.ownBlock = some k) w1 ∧ Kd.R Kd.string 9 w1 B (fun k => u.ownBlock = some k) u l ∧ ∀ k, K k → w1.heap[k]? = wK.heap[k]? := by
  have h1 := h.later hb
  refine ⟨stk_hold h1 (fun k hk => ?_), R_only (Kd.R_lower hu h.st.low), fun k hk => (h1.held k hk).2⟩
  rcases hk with hk | hk
  · exact ⟨(h1.held k hk).1, fun x hx e => h1.far x hx k e hk⟩
  · exact ⟨(own_lt hu hk).2, fun x hx e => by have h2 := h.st.lt hx e; have h3 := (own_lt hu hk).1; omega⟩
end
structure LS (w0 w : World) (bs : List Blk) (gm : Nat) (S : Int → Bool) (was now : Value) (l lk : List ByteArray) : Prop where
  k : StK w0.heap.size w0 w bs (fun k => (k = gm ∨ was.ownBlock = some k) ∨ now.ownBlock = some k) w
  m : setIs w gm 16 S
  wv : Kd.R Kd.string 9 w w0.heap.size (fun k => was.ownBlock = some k) was l
  nv : Kd.R Kd.string 9 w w0.heap.size (fun k => now.ownBlock = some k) now lk
theorem LS.of_held {w0 w wK : World} {bs : List Blk} {gm : Nat} {S : Int → Bool} {was now : Value} {l lk : List ByteArray} (h : StK w0.heap.size w0 w bs (fun k => (k = gm ∨ was.ownBlock = some k) ∨ now.ownBlock = some k) wK) (hm : setIs wK gm 16 S) (hw : Kd.R Kd.string 9 wK w0.heap.size (fun k => was.ownBlock = some k) was l) (hn : Kd.R Kd.string 9 wK w0.heap.size (fun k => now.ownBlock = some k) now lk) : LS w0 w bs gm S was now l lk :=
  ⟨h.now, setIs_kept hm (h.held gm (.inl (.inl rfl))).2, R_held hw (fun g hg => (h.held g (.inl (.inr hg))).2), R_held hn (fun g hg => (h.held g (.inr hg)).2)⟩
theorem LS.later {w0 w w1 : World} {bs : List Blk} {gm : Nat} {S : Int → Bool} {was now : Value} {l lk : List ByteArray} (h : LS w0 w bs gm S was now l lk) (hb : Below w.heap.size w w1) : LS w0 w1 bs gm S was now l lk := LS.of_held (h.k.later hb) h.m h.wv h.nv
end Go.Proofs.YtiklcpacbclpnaaDoor.P
end
section
set_option linter.unusedVariables false
set_option linter.unusedSimpArgs false
namespace Go.Proofs.YtiklcpacbclpnaaDoor.P
open Go.RowKit Go.Proofs.YtiklcpacbclpnaaDoorW.PrintWords Go.Proofs.YtiklcpacbclpnaaDoorW.PrintLast Go.Proofs.YtiklcpacbclpnaaDoorW.PrintMore
attribute [local go_sem] isSome_setCell_eq
section
variable {ops : Array Oper} {rest : List Oper} {o : Oper} {a : Act} {Q : Exit → Act → World → Prop} {w : World}
theorem xl_indexv (hgd : o.guard = none) (T : TypeId) (x y : Operand) (ho : o.op = .index T x y) (p q : Value) (hx : a.eval x = p) (hy : a.eval y = q) (v : Value) (hr : (Instr.index T p q).run Tryd.prog w = .ok v w) (K : wpList Tryd.prog ops Q rest (a.put o.dst v) w) : wpList Tryd.prog ops Q (o :: rest) a w := by
  refine Kd.event_run (v := v) hgd ?_ K
  unfold execOp
  simp only [ho, hx, hy, Sem.run_bind, hr, Result.andThen_ok]
  rfl
end
theorem conv53 (n : Int) (h0 : 0 ≤ n) (h1 : n < 256) (w : World) : (convert 5 3 (.int .u8 n)).run Tryd.prog w = .ok (.int .i64 n) w := by
  rw [run_convert_int w 5 3 .u8 n (by kernel_rfl) (by kernel_rfl)]
  have : Tryd.prog.intKind 3 = .i64 := by kernel_rfl
  rw [this]
  congr 2
  simp [IntKind.wrap, IntKind.bits, IntKind.signed]
  omega
theorem rem_lit (m n : Int) (N : Nat) (h0 : 0 ≤ n) (h1 : n < 256) (hm : 0 < m) (hm1 : m < 256) (hN : n % m = N) (w : World) : (binOp .rem 3 (.int .i64 n) (.int .i64 m)).run Tryd.prog w = .ok (.int .i64 N) w := by
  rw [binOp_rem]
  have e : n.tmod m = N := by rw [Int.tmod_eq_emod_of_nonneg h0, hN]
  unfold Op.intDiv
  rw [if_neg (by omega)]
  simp [e]
def L1 (w0 : World) (gs gc gm : Nat) (R : List Int) (pc : Int) (s : List Pg) (f : Pg → Int → Bool) (i : Value) (wr : World) : Prop :=
  ∃ k : Nat, k ≤ 16 ∧ i = .int .i64 k ∧ StK w0.heap.size w0 wr [(some gs, spv s, 29), (some gc, cpv R pc, 25)] (fun g => g = gm) wr ∧ setIs wr gm k (fun j => (s.take k).any (fun p => f p j))
theorem take_any {s : List Pg} {k : Nat} {p : Pg} (hp : s[k]? = some p) (g : Pg → Bool) : (s.take (k + 1)).any g = ((s.take k).any g || g p) := by
  rw [List.take_add_one, hp]
  simp
theorem l1_yes {w : World} {gm k : Nat} {s : List Pg} {p : Pg} {f : Pg → Int → Bool} (hp : s[k]? = some p) (hf : ∀ j, f p j = (j == p.fr)) (h : setIs w gm (k + 1) (fun j => j == p.fr || (s.take k).any (fun p => f p j))) : setIs w gm (k + 1) (fun j => (s.take (k + 1)).any (fun p => f p j)) := by
  have e : (fun j => (s.take (k + 1)).any (fun p => f p j)) = (fun j => j == p.fr || (s.take k).any (fun p => f p j)) := by
    funext j
    rw [take_any hp, hf, Bool.or_comm]
  rw [e]
  exact h
theorem l1_no {w : World} {gm k : Nat} {s : List Pg} {p : Pg} {f : Pg → Int → Bool} (hp : s[k]? = some p) (hf : ∀ j, f p j = false) (h : setIs w gm k (fun j => (s.take k).any (fun p => f p j))) : setIs w gm (k + 1) (fun j => (s.take (k + 1)).any (fun p => f p j)) := by
  have e : (fun j => (s.take (k + 1)).any (fun p => f p j)) = (fun j => (s.take k).any (fun p => f p j)) := by
    funext j
    rw [take_any hp, hf, Bool.or_false]
  rw [e]
  obtain ⟨D, ho, hm, ha⟩ := h
  exact ⟨D, ho.mono (Nat.le_succ k), hm, ha⟩
theorem wild_loop (l : List ByteArray) (hl : l.length ≤ 9223372036854775807) : ∀ d i : Nat, i + d = l.length → ∃ b : Bool, (b = false → l.length ≤ 20) ∧ Ev (fun k => hibernacletop_wild.l0 k l l (l.length : Int) (i : Int)) b := by
  intro d
  induction d with
  | zero =>
    intro i hi
    refine ⟨decide ((l.length : Int) > 20), fun h => by have := of_decide_eq_false h; omega, Ev.step (f := fun _ => some (decide ((l.length : Int) > 20))) (fun k => ?_) (Ev.now _)⟩
    simp only [hibernacletop_wild.l0]
    rw [if_neg (by omega)]
  | succ d ih =>
    intro i hi
    have e1 : wrap64 ((i : Int) + 1) = ((i + 1 : Nat) : Int) := by unfold wrap64; omega
    by_cases hz : ((rdOf ByteArray.empty l (i : Int)).size : Int) = 128
    · obtain ⟨b, hb, hE⟩ := ih (i + 1) (by omega)
      refine ⟨b, hb, Ev.step (fun k => ?_) hE⟩
      simp only [hibernacletop_wild.l0, e1]
      rw [if_pos (by omega), if_pos (by omega), if_pos (by omega), if_pos hz]
    · refine ⟨true, fun h => (by cases h), Ev.step (f := fun _ => some true) (fun k => ?_) (Ev.now _)⟩
      simp only [hibernacletop_wild.l0]
      rw [if_pos (by omega), if_pos (by omega), if_pos (by omega), if_neg hz]
theorem wild_ex (l : List ByteArray) (hl : l.length ≤ 9223372036854775807) : ∃ k b, hibernacletop_wild.f k l = some b ∧ (b = false → l.length ≤ 20) := by
  obtain ⟨b, hb, hE⟩ := wild_loop l hl l.length 0 (by omega)
  obtain ⟨k, hk⟩ := hE.rounds
  exact ⟨k, b, hk, hb⟩
theorem held_C {w w2 : World} {base c : Nat} {A : Option Addr} {n : Nat} {l : List ByteArray} (h : Kd.R Kd.string 9 w base (fun k => (Value.slice A n c).ownBlock = some k) (.slice A n c) l) (hk : ∀ g, (Value.slice A n c).ownBlock = some g → w2.heap[g]? = w.heap[g]?) : Kd.C Kd.string w2 A l.length l := (Kd.R_reads' (R_held h hk)).2.2
theorem wf_small {i : Int} (h : 0 ≤ i ∧ i < 1000) : (Lit.int .i64 i).wf = true := by
  have h1 : IntKind.i64.min = -9223372036854775808 := by decide
  have h2 : IntKind.i64.max = 9223372036854775807 := by decide
  show (decide (IntKind.i64.min ≤ i) && decide (i ≤ IntKind.i64.max)) = true
  rw [h1, h2, decide_eq_true (by omega), decide_eq_true (by omega)]
  rfl
theorem drawn_below0 (w : World) : Below w.heap.size w w.drew := ⟨rfl, rfl, rfl, Nat.le_refl _, fun _ _ => rfl⟩
theorem val53 {o : Oper} {a : Act} {w : World} {n : Int} {x : Operand} (ho : o.op = .convert 5 3 x ∧ a.eval x = .int .u8 n) (h : (convert 5 3 (.int .u8 n)).run Tryd.prog w = .ok (.int .i64 n) w) : (execOp a.eval o).run Tryd.prog w = .ok (.value (.int .i64 n)) w := by
  unfold execOp
  simp only [ho.1, ho.2, Sem.run_bind, h, Result.andThen_ok]
  rfl
end Go.Proofs.YtiklcpacbclpnaaDoor.P
end
section
set_option linter.unusedVariables false
set_option linter.unusedSimpArgs false
namespace Go.Proofs.YtiklcpacbclpnaaDoor.P
open Go.RowKit Go.Proofs.YtiklcpacbclpnaaDoorW.PrintWords Go.Proofs.YtiklcpacbclpnaaDoorW.PrintLast Go.Proofs.YtiklcpacbclpnaaDoorW.PrintMore
attribute [local go_sem] isSome_setCell_eq
end Go.Proofs.YtiklcpacbclpnaaDoor.P
end
section
namespace Go.Proofs.YtiklcpacbclpnaaDoor.Ix
set_option linter.unusedSimpArgs false
set_option linter.unusedVariables false
open Go.ChangeShapes Go.WideShapes Go.ChangeAt Go.RowKit Go.Joins Go.Proofs.YtiklcpacbclpnaaDoorW.PrintWords
open Go.Proofs.YtiklcpacbclpnaaDoor.P
theorem own : ownKnob Tryd.prog.godebug = none := by kernel_rfl
theorem laidOut : laidOutB Tryd.prog = true := by kernel_rfl
def LL : List (String × DataW Unit) := [("unicode/utf8.acceptRanges", Rows.laid_unicode_utf8_acceptRanges), ("unicode/utf8.first", Rows.laid_unicode_utf8_first)]
theorem LL_plain : (LL.all fun x => x.2.handleName?.isNone) = true := by kernel_rfl
theorem laid_of {W : World} (hS : W.ShapedOpen Tryd.prog) : P.Laid W :=
  cell_of_shapedOpen_int (t := 3) (zero := #[.int .i64 0]) hS (of_decide_eq_true (by kernel_rfl)) (by kernel_rfl) rfl (by kernel_rfl) (by kernel_rfl) Tryd.underlying3
theorem laid_met (os : Os) (args : Array Value) : laidMetH Tryd.prog LL ((World.laidAll Tryd.prog os LL).forCall (fun _ _ => 0) ⟨#[], args, []⟩).memory := by
  rw [MakeChecks.laidMetH_plain _ _ _ LL_plain]
  exact laidMet_laidAll args (by kernel_rfl) (by kernel_rfl)
theorem u8_wf {e : Int} (h : (Lit.int .u8 e).wf = true) : 0 ≤ e ∧ e < 256 := by
  simp only [Lit.wf, IntKind.min, IntKind.max, IntKind.signed, IntKind.bits, Bool.and_eq_true, decide_eq_true_eq] at h
  simp at h
  omega
theorem u32_wf {e : Int} (h : (Lit.int .u32 e).wf = true) : 0 ≤ e ∧ e < 4294967296 := by
  simp only [Lit.wf, IntKind.min, IntKind.max, IntKind.signed, IntKind.bits, Bool.and_eq_true, decide_eq_true_eq] at h
  simp at h
  omega
theorem chunks (m : Nat) (g : Nat → List Value) : ∀ (n : Nat) (cs : List Value), cs.length = n * m → (∀ i, i < n → (cs.drop (i * m)).take m = g i) → cs = (List.range n).flatMap g
  | 0, cs, hl, _ => by
    have : cs = [] := List.length_eq_zero_iff.1 (by omega)
    rw [this]
    rfl
  | n + 1, cs, hl, h => by
    have h1 := chunks m g n (cs.take (n * m)) (by rw [List.length_take, hl, Nat.succ_mul]; omega) (fun i hi => by
      have hle : i * m + m ≤ n * m := by
        have := Nat.mul_le_mul_right m (show i + 1 ≤ n by omega)
        rw [Nat.succ_mul] at this
        exact this
      rw [← h i (by omega), List.drop_take, List.take_take, Nat.min_eq_left (by omega)])
    have h2 := h n (by omega)
    rw [List.take_of_length_le (by rw [List.length_drop, hl, Nat.succ_mul]; omega)] at h2
    rw [List.range_succ, List.flatMap_append, ← h1, List.flatMap_cons, List.flatMap_nil, List.append_nil, ← h2, List.take_append_drop]
section
variable {H : Type} {enc : TypeId × Value → H} {w : World} {r : Reach} {b0 : Nat} {v : Value} {d : DataW H} {p : List MemPlace}
theorem open_cpu (hv : Value.okWide Tryd.prog w r b0 25 v) (h : DataW.Trod enc Tryd.prog w 0 (fun _ => true) true 25 v d p) :
    ∃ (R : List Int) (pc : Int), v = .agg (cpv R pc) ∧ Rok R ∧ (0 ≤ pc ∧ pc < 4294967296) := by
  obtain ⟨cs, rfl, hcs⟩ := okWide_struct Tryd.underlying25 hv
  obtain ⟨fuel, hf⟩ := h
  obtain ⟨xs, m, rfl, _, hl, hs, hf⟩ := DataW.trod_struct Tryd.underlying25 hf
  have hl17 : cs.toList.length = 17 := by
    have : Tryd.prog.cellsOf 25 = 17 := by kernel_rfl
    rw [Array.length_toList, hcs, this]
  have e0 : (Value.agg cs).cells.toList = cs.toList := rfl
  rw [e0] at hf
  have f0 := hf 0 _ rfl
  have f1 := hf 1 _ rfl
  have s2 : xs.length = 2 := hs
  rw [List.getElem?_eq_getElem (by omega)] at f0 f1
  have c23 : Tryd.prog.cellsOf 23 = 16 := by kernel_rfl
  have c22 : Tryd.prog.cellsOf 22 = 1 := by kernel_rfl
  have u22 : Tryd.prog.underlying 22 = some (.int .u32) := by kernel_rfl
  have u23 : Tryd.prog.underlying 23 = some (.array 16 22) := by kernel_rfl
  change DataW.trod enc Tryd.prog w 0 (fun _ => true) true m 23 ((cs.toList.drop 0).take (Tryd.prog.cellsOf 23)) = _ at f0
  change DataW.trod enc Tryd.prog w 0 (fun _ => true) true m 22 ((cs.toList.drop 16).take (Tryd.prog.cellsOf 22)) = _ at f1
  rw [c23, List.drop_zero] at f0
  rw [c22] at f1
  obtain ⟨pc, hpc, _, wpc⟩ := DataW.trod_int u22 f1
  obtain ⟨ys, m2, rfl, _, _, hy, hel⟩ := DataW.trod_array u23 f0
  rw [c22] at hel
  have key : ∀ i : Nat, ∃ z : Int, i < 16 → (((cs.toList.take 16).drop (i * 1)).take 1 = [.int .u32 z] ∧ (0 ≤ z ∧ z < 4294967296)) := by
    intro i
    by_cases hi : i < 16
    · have h1 := hel i hi
      rw [List.getElem?_eq_getElem (by omega)] at h1
      obtain ⟨z, hz, _, wz⟩ := DataW.trod_int u22 h1
      exact ⟨z, fun _ => ⟨hz, u32_wf wz⟩⟩
    · exact ⟨0, fun h => absurd h hi⟩
  obtain ⟨F, hF⟩ := Classical.skolem.1 key
  have hch := chunks 1 (fun i => [Value.int .u32 (F i)]) 16 (cs.toList.take 16) (by rw [List.length_take, hl17]; rfl) (fun i hi => (hF i hi).1)
  have hsnd : cs.toList.drop 16 = [.int .u32 pc] := by
    rw [← hpc, List.take_of_length_le (by rw [List.length_drop, hl17]; omega)]
  refine ⟨(List.range 16).map F, pc, ?_, ⟨by simp, fun x hx => ?_⟩, u32_wf wpc⟩
  · have : cs.toList = cpl ((List.range 16).map F) pc := by
      rw [← List.take_append_drop 16 cs.toList, hch, hsnd]
      unfold cpl
      rfl
    congr 1
    unfold cpv
    rw [← this]
  · obtain ⟨i, hi, rfl⟩ := List.mem_map.1 hx
    exact (hF i (List.mem_range.1 hi)).2
theorem okWide_arr {t e : TypeId} {n : Nat} (ht : Tryd.prog.underlying t = some (.array n e)) (h : Value.okWide Tryd.prog w r b0 t v) : ∃ cs, v = .agg cs ∧ cs.size = Tryd.prog.cellsOf t := by
  simp only [Value.okWide, ht] at h
  obtain ⟨cs, h1, h2, _⟩ := h
  exact ⟨cs, h1, h2⟩
theorem open_space (hv : Value.okWide Tryd.prog w r b0 29 v) (h : DataW.Trod enc Tryd.prog w 0 (fun _ => true) true 29 v d p) :
    ∃ s : List Pg, v = .agg (spv s) ∧ s.length = 16 ∧ ∀ q ∈ s, (Lit.int .i64 q.fr).wf = true := by
  have u29 : Tryd.prog.underlying 29 = some (.array 16 27) := by kernel_rfl
  have c29 : Tryd.prog.cellsOf 29 = 48 := by kernel_rfl
  have c27 : Tryd.prog.cellsOf 27 = 3 := by kernel_rfl
  have c4 : Tryd.prog.cellsOf 4 = 1 := by kernel_rfl
  have c3 : Tryd.prog.cellsOf 3 = 1 := by kernel_rfl
  obtain ⟨cs, rfl, hcs⟩ := okWide_arr u29 hv
  obtain ⟨fuel, hf⟩ := h
  obtain ⟨ys, m, rfl, _, hl, hy, hel⟩ := DataW.trod_array u29 hf
  have e0 : (Value.agg cs).cells.toList = cs.toList := rfl
  rw [e0] at hel
  have hl48 : cs.toList.length = 48 := by rw [Array.length_toList, hcs, c29]
  rw [c27] at hel
  have key : ∀ i : Nat, ∃ q : Pg, i < 16 → ((cs.toList.drop (i * 3)).take 3 = [.bool q.is, .bool q.wr, .int .i64 q.fr] ∧ (Lit.int .i64 q.fr).wf = true) := by
    intro i
    by_cases hi : i < 16
    · have h1 := hel i hi
      rw [List.getElem?_eq_getElem (by omega)] at h1
      have hl3 : ((cs.toList.drop (i * 3)).take 3).length = 3 := by rw [List.length_take, List.length_drop, hl48]; omega
      revert h1 hl3
      generalize (cs.toList.drop (i * 3)).take 3 = cc
      intro h1 hl3
      match cc, hl3 with
      | [v0, v1, v2], _ =>
        obtain ⟨xs, m2, rfl, _, _, hs, hf⟩ := DataW.trod_struct Tryd.underlying27 h1
        have s3 : xs.length = 3 := hs
        have f0 := hf 0 _ rfl
        have f1 := hf 1 _ rfl
        have f2 := hf 2 _ rfl
        rw [List.getElem?_eq_getElem (by omega)] at f0 f1 f2
        change DataW.trod enc Tryd.prog w 0 (fun _ => true) true m2 4 (([v0, v1, v2].drop 0).take (Tryd.prog.cellsOf 4)) = _ at f0
        change DataW.trod enc Tryd.prog w 0 (fun _ => true) true m2 4 (([v0, v1, v2].drop 1).take (Tryd.prog.cellsOf 4)) = _ at f1
        change DataW.trod enc Tryd.prog w 0 (fun _ => true) true m2 3 (([v0, v1, v2].drop 2).take (Tryd.prog.cellsOf 3)) = _ at f2
        rw [c4] at f0 f1
        rw [c3] at f2
        obtain ⟨b0, h0, _⟩ := DataW.trod_bool und4 f0
        obtain ⟨b1, h1', _⟩ := DataW.trod_bool und4 f1
        obtain ⟨n2, h2, _, w2⟩ := DataW.trod_int und3 f2
        simp only [List.drop_zero, List.drop_succ_cons, List.take_succ_cons, List.take_zero, List.cons.injEq, and_true] at h0 h1' h2
        subst h0
        subst h1'
        subst h2
        exact ⟨⟨b0, b1, n2⟩, fun _ => ⟨rfl, w2⟩⟩
    · exact ⟨⟨false, false, 0⟩, fun h => absurd h hi⟩
  obtain ⟨F, hF⟩ := Classical.skolem.1 key
  have hch := chunks 3 (fun i => [Value.bool (F i).is, .bool (F i).wr, .int .i64 (F i).fr]) 16 cs.toList (by rw [hl48]) (fun i hi => (hF i hi).1)
  refine ⟨(List.range 16).map F, ?_, by simp, fun q hq => ?_⟩
  · congr 1
    unfold spv pgs
    rw [List.flatMap_map, ← hch]
  · obtain ⟨i, hi, rfl⟩ := List.mem_map.1 hq
    exact (hF i (List.mem_range.1 hi)).2
theorem open_frames (hv : Value.okWide Tryd.prog w r b0 30 v) (h : DataW.Trod enc Tryd.prog w 0 (fun _ => true) true 30 v d p) :
    ∃ (A : Option Addr) (c : Nat) (l : List ByteArray), v = .slice A l.length c ∧ Kd.C Kd.string w A l.length l ∧ l.length ≤ c ∧ l.length ≤ 9223372036854775807 := by
  obtain ⟨A, len, cap, rfl⟩ := okWide_slice Tryd.underlying30 hv
  obtain ⟨fuel, hf⟩ := h
  have c9 : Tryd.prog.cellsOf 9 = 1 := by kernel_rfl
  rcases open_strings Tryd.underlying30 Tryd.underlying9 c9 hf with ⟨hcs, _⟩ | ⟨a, len', cap', ss, hcs, _, hl, hm, hz, _, hcell, _⟩
  · simp [Value.cells] at hcs
    obtain ⟨rfl, rfl, rfl⟩ := hcs
    exact ⟨none, 0, [], rfl, ⟨rfl, by simp, fun h => absurd h (by simp)⟩, Nat.le_refl _, by simp⟩
  · simp [Value.cells] at hcs
    obtain ⟨rfl, rfl, rfl⟩ := hcs
    rw [if_pos rfl] at hz
    have e : (ss.take len).length = len := by rw [List.length_take]; omega
    have hmax : maxLen = 9223372036854775807 := rfl
    refine ⟨some a, cap, ss.take len, by rw [e], Kd.C_of_reads (d := ByteArray.empty) ⟨rfl, by omega, fun _ => ⟨a, rfl, fun j hj => ?_⟩⟩, by rw [e]; exact hl, by omega⟩
    rw [hcell j (by omega)]
    congr 2
    rw [List.getD_eq_getElem?_getD, List.getD_eq_getElem?_getD, List.getElem?_take_of_lt (by omega)]
end
end Go.Proofs.YtiklcpacbclpnaaDoor.Ix
end
section
set_option linter.unusedVariables false
set_option linter.unusedSimpArgs false
namespace Go.Proofs.YtiklcpacbclpnaaDoor.P
open Go.RowKit Go.Proofs.YtiklcpacbclpnaaDoorW.PrintWords Go.Proofs.YtiklcpacbclpnaaDoorW.PrintLast Go.Proofs.YtiklcpacbclpnaaDoorW.PrintMore
attribute [local go_sem] isSome_setCell_eq
def RD (w0 w : World) (K : Nat → Prop) (fv : Value) (l : List ByteArray) : Prop := ∃ A c, fv = .slice A l.length c ∧ l.length ≤ c ∧ ∀ w1 : World, Below w0.heap.size w0 w1 → (∀ k, K k → w1.heap[k]? = w.heap[k]?) → Kd.C Kd.string w1 A l.length l
theorem RD.of_arg {w0 w : World} {K : Nat → Prop} {A : Option Addr} {c : Nat} {l : List ByteArray} (hr : Kd.C Kd.string w0 A l.length l) (hc : l.length ≤ c) : RD w0 w K (.slice A l.length c) l := ⟨A, c, rfl, hc, fun _ hb _ => Kd.C_below hr hb⟩
theorem RD.of_own {w0 w : World} {K : Nat → Prop} {base : Nat} {v : Value} {l : List ByteArray} (h : Kd.R Kd.string 9 w base (fun k => v.ownBlock = some k) v l) (hK : ∀ k, v.ownBlock = some k → K k) : RD w0 w K v l := by
  obtain ⟨A, c, rfl, hc, _⟩ := R_form h
  exact ⟨A, c, rfl, hc, fun w1 _ hk => held_C h (fun g hg => hk g (hK g hg))⟩
theorem RD.move {w0 w w2 : World} {K K' : Nat → Prop} {v : Value} {l : List ByteArray} (h : RD w0 w K v l) (hk : ∀ k, K k → w2.heap[k]? = w.heap[k]?) (hK : ∀ k, K k → K' k) : RD w0 w2 K' v l := by
  obtain ⟨A, c, e, hc, hC⟩ := h
  exact ⟨A, c, e, hc, fun w1 hb h1 => hC w1 hb (fun k hk1 => (h1 k (hK k hk1)).trans (hk k hk1))⟩
structure LU (w0 w : World) (bs : List Blk) (gm : Nat) (S : Int → Bool) (v : Value) (o : List ByteArray) : Prop where
  k : StK w0.heap.size w0 w bs (fun k => k = gm ∨ v.ownBlock = some k) w
  m : setIs w gm 16 S
  ne : v.ownBlock ≠ some gm
  r : Kd.R Kd.string 9 w w0.heap.size (fun k => v.ownBlock = some k) v o
theorem LU.later {w0 w w1 : World} {bs : List Blk} {gm : Nat} {S : Int → Bool} {v : Value} {o : List ByteArray} (h : LU w0 w bs gm S v o) (hb : Below w.heap.size w w1) : LU w0 w1 bs gm S v o :=
  ⟨(h.k.later hb).now, setIs_kept h.m (hb.block gm (setIs_lt h.m)), h.ne, Kd.R_below h.r hb⟩
theorem R_base {w : World} {base : Nat} {ok : Nat → Prop} {v : Value} {l : List ByteArray} {j : Nat} (h : Kd.R Kd.string 9 w base ok v l) (hj : j < l.length) : ∃ g c, v = .slice (some ⟨g, 0, none⟩) l.length c := by
  obtain ⟨_, hc⟩ := Kd.own_of_R h
  rcases hc with ⟨rfl, hn⟩ | ⟨g, cap, cur, rfl, _⟩
  · omega
  · exact ⟨g, cap, rfl⟩
theorem idx30g (g n c : Nat) (i : Int) (h0 : 0 ≤ i) (h1 : i < n) (w : World) : (Instr.indexAt 30 (.slice (some ⟨g, 0, none⟩) n c) (.int .i64 i)).run Tryd.prog w = .ok (.pointer (some ⟨g, i.toNat, none⟩)) w := by
  rw [idx30 _ n c i h0 h1 w]
  unfold Addr.add
  by_cases h : i.toNat = 0
  · rw [if_pos h, h]
  · rw [if_neg h]
    simp
section
variable {ops : Array Oper} {rest : List Oper} {op : Oper} {a : Act} {Q : Exit → Act → World → Prop}
theorem xl_putText {w0 w : World} {bs : List Blk} {gm g n c : Nat} {S : Int → Bool} {o : List ByteArray} (h : LU w0 w bs gm S (.slice (some ⟨g, 0, none⟩) n c) o) (hgd : op.guard = none) (hN : op.dst = none) (x y : Operand) (ho : op.op = .store 9 x y) (j : Int) (h0 : 0 ≤ j) (h1 : j < n) (hx : a.eval x = .pointer (some ⟨g, j.toNat, none⟩)) (z : ByteArray) (hy : a.eval y = .string z)
    (KK : ∀ w1, LU w0 w1 bs gm S (.slice (some ⟨g, 0, none⟩) n c) (o.set j.toNat z) → wpList Tryd.prog ops Q rest a w1) : wpList Tryd.prog ops Q (op :: rest) a w := by
  obtain ⟨hc, hf⟩ := Kd.R_celln (enc := Value.string) (h1 := fun _ => rfl) ByteArray.empty h.r j h0 h1
  obtain ⟨hR, hg⟩ := Kd.R_putg (enc := Value.string) (h1 := fun _ => rfl) h.r j z
  have hst : (store ⟨g, j.toNat, none⟩ (.string z)).run Tryd.prog w = .ok () (w.setCell ⟨g, j.toNat, none⟩ (.string z)) := by
    rw [run_store Tryd.prog w _ _ _ rfl, hc, hf]
    rfl
  have hrun : (Instr.storeAt 9 (.pointer (some ⟨g, j.toNat, none⟩)) (.string z)).run Tryd.prog w = .ok () (w.setCell ⟨g, j.toNat, none⟩ (.string z)) := by
    have hi := size_run (t := 9) (n := 1) (by kernel_rfl) w
    simp [Instr.storeAt, Instr.sureAddr, storeVar, Sem.run_bind, hi, Value.cells, storeCells, Addr.add, hst]
  have hng : gm ≠ g := fun e => h.ne (by rw [e]; rfl)
  refine wpList_plain hgd fun K' hK => ?_
  unfold Oper.wp
  rw [run_skip_of ho (by rw [hx, hy]; exact hrun)]
  show K' (a.put op.dst undef) _
  rw [hN]
  refine hK _ _ (KK _ ⟨⟨h.k.st.grown hg (fun k hk => ?_), fun k hk => ⟨?_, rfl⟩, h.k.far⟩, setIs_kept h.m (hg.block gm (setIs_lt h.m) (fun e => hng (by injection e))), h.ne, hR⟩)
  · injection hk with hk
    subst hk
    exact ⟨(own_lt h.r rfl).1, fun x hx e => h.k.far x hx _ e (.inr rfl)⟩
  · have := (h.k.held k hk).1
    simpa using this
end
def L2u (w0 : World) (bs : List Blk) (gm : Nat) (s : List Pg) (v : Value) (l : List ByteArray) (i : Value) (wr : World) : Prop :=
  ∃ j : Nat, j ≤ l.length ∧ i = .int .i64 j ∧ ∃ o, LU w0 wr bs gm (seenB s) v o ∧ o.length = l.length ∧ ∀ t : Nat, seenB s t = true → o[t]? = l[t]?
theorem seen_set {s : List Pg} {o l : List ByteArray} {j : Nat} {z : ByteArray} (h : ∀ t : Nat, seenB s t = true → o[t]? = l[t]?) (hj : seenB s (j : Int) = false) : ∀ t : Nat, seenB s t = true → (o.set j z)[t]? = l[t]? := fun t ht => by
  have hne : j ≠ t := fun e => by subst e; rw [hj] at ht; cases ht
  rw [List.getElem?_set_ne hne]
  exact h t ht
structure LW (w0 w : World) (bs : List Blk) (K : Nat → Prop) (gm : Nat) (S : Int → Bool) (fv ov : Value) (l o : List ByteArray) : Prop where
  k : StK w0.heap.size w0 w bs K w
  g : K gm
  m : setIs w gm 16 S
  f : RD w0 w K fv l
  o : RD w0 w K ov o
theorem LW.of_held {w0 w wK : World} {bs : List Blk} {K : Nat → Prop} {gm : Nat} {S : Int → Bool} {fv ov : Value} {l o : List ByteArray} (h : StK w0.heap.size w0 w bs K wK) (hg : K gm) (hm : setIs wK gm 16 S) (hf : RD w0 wK K fv l) (ho : RD w0 wK K ov o) : LW w0 w bs K gm S fv ov l o :=
  ⟨h.now, hg, setIs_kept hm (h.held gm hg).2, hf.move (fun k hk => (h.held k hk).2) (fun _ h => h), ho.move (fun k hk => (h.held k hk).2) (fun _ h => h)⟩
theorem LW.later {w0 w w1 : World} {bs : List Blk} {K : Nat → Prop} {gm : Nat} {S : Int → Bool} {fv ov : Value} {l o : List ByteArray} (h : LW w0 w bs K gm S fv ov l o) (hb : Below w.heap.size w w1) : LW w0 w1 bs K gm S fv ov l o := LW.of_held (h.k.later hb) h.g h.m h.f h.o
def L3u (w0 : World) (gd gs gc gm : Nat) (s : List Pg) (l : List ByteArray) (N : Nat) (fv ov i : Value) (wr : World) : Prop :=
  ∃ k : Nat, k ≤ N ∧ i = .int .i64 k ∧ ∃ R pc lk ok K, LW w0 wr [(some gd, cpv R pc, 25), (some gs, spv s, 29), (some gc, cpv R pc, 25)] K gm (seenB s) fv ov lk ok ∧ Rok R ∧ (0 ≤ pc ∧ pc < 4294967296) ∧ Agree s lk ok ∧ lk.length = l.length
def L4u (w0 : World) (bs : List Blk) (K : Nat → Prop) (gm : Nat) (s : List Pg) (fv ov : Value) (l lk ok : List ByteArray) (i : Value) (wr : World) : Prop :=
  ∃ j : Nat, j ≤ l.length ∧ i = .int .i64 j ∧ LW w0 wr bs K gm (seenB s) fv ov lk ok
theorem rd_cell {w0 w : World} {K : Nat → Prop} {ad : Addr} {n c : Nat} {l : List ByteArray} {j : Int} (h : RD w0 w K (.slice (some ad) n c) l) (hb : Below w0.heap.size w0 w) (h0 : 0 ≤ j) (h1 : j < (l.length : Int)) : w.cell? (ad.add j.toNat) = some (.string (rdOf ByteArray.empty l j)) := by
  obtain ⟨A, c', e, _, hC⟩ := h
  injection e with e1 e2 e3
  subst e1
  obtain ⟨ad', e, hc⟩ := Kd.at_string (hC w hb (fun _ _ => rfl)) j h0 h1
  injection e with e
  subst e
  exact hc
theorem rd_base {w0 w : World} {K : Nat → Prop} {A : Option Addr} {n c : Nat} {l : List ByteArray} {j : Int} (h : RD w0 w K (.slice A n c) l) (hb : Below w0.heap.size w0 w) (h0 : 0 ≤ j) (h1 : j < (l.length : Int)) : ∃ ad, A = some ad := by
  obtain ⟨A', c', e, _, hC⟩ := h
  injection e with e1 e2 e3
  subst e1
  obtain ⟨ad', e, _⟩ := Kd.at_string (hC w hb (fun _ _ => rfl)) j h0 h1
  exact ⟨ad', e⟩
theorem agree_rd {s : List Pg} {l o : List ByteArray} {j : Nat} (h : Agree s l o) (hs : seenB s (j : Int) = true) : (!((rdOf ByteArray.empty l (j : Int)).toList == (rdOf ByteArray.empty o (j : Int)).toList)) = false := by
  have e := h.2 j hs
  have : rdOf ByteArray.empty l (j : Int) = rdOf ByteArray.empty o (j : Int) := by
    unfold rdOf
    simp only [Int.toNat_natCast, List.getD_eq_getElem?_getD, e]
  rw [this]
  simp
theorem page_loop (f : Int) (m : Nat) (hm : m ≤ 128) : ∀ (d i : Nat) (y : List Int), y.length = m → i + d = m → ∃ r : ByteArray, Ev (fun k => hibernacletop_page.l0 k f y (m : Int) (i : Int)) r := by
  intro d
  induction d with
  | zero =>
    intro i y hy hi
    refine ⟨strOfNums y, Ev.step (f := fun _ => some (strOfNums y)) (fun k => ?_) (Ev.now _)⟩
    simp only [hibernacletop_page.l0]
    rw [if_neg (by omega)]
  | succ d ih =>
    intro i y hy hi
    have e1 : wrap64 ((i : Int) + 1) = ((i + 1 : Nat) : Int) := by unfold wrap64; omega
    obtain ⟨r, hr⟩ := ih (i + 1) (y.set (i : Int).toNat f) (by rw [List.length_set, hy]) (by omega)
    refine ⟨r, Ev.step (fun k => ?_) hr⟩
    simp only [hibernacletop_page.l0, e1]
    rw [if_pos (by omega), if_pos (by omega), if_pos (by omega)]
theorem page_ex (f : Int) : ∃ k r, hibernacletop_page.f k f = some r := by
  obtain ⟨r, hr⟩ := page_loop f 128 (by omega) 128 0 (List.replicate 128 0) (by simp) (by omega)
  obtain ⟨k, hk⟩ := hr.rounds
  refine ⟨k, r, ?_⟩
  unfold hibernacletop_page.f
  rw [if_pos (by omega)]
  simp only [Option.bind_some, List.length_replicate]
  exact hk
theorem take16 {s : List Pg} (hs : s.length = 16) : (fun j => (s.take 16).any (fun p => p.is && j == p.fr)) = seenB s := by
  funext j
  rw [List.take_of_length_le (by omega)]
  rfl
end Go.Proofs.YtiklcpacbclpnaaDoor.P
end
section
set_option linter.unusedVariables false
set_option linter.unusedSimpArgs false
namespace Go.Proofs.YtiklcpacbclpnaaDoor.P
open Go.RowKit Go.Proofs.YtiklcpacbclpnaaDoorW.PrintWords Go.Proofs.YtiklcpacbclpnaaDoorW.PrintLast Go.Proofs.YtiklcpacbclpnaaDoorW.PrintMore
attribute [local go_sem] isSome_setCell_eq
theorem lu_first {w0 w : World} {bs : List Blk} {gm : Nat} {S : Int → Bool} {v : Value} {l : List ByteArray} (h : StK w0.heap.size w0 w bs (fun k => k = gm ∨ v.ownBlock = some k) w) (hm : setIs w gm 16 S) (hv : Kd.R Kd.string 9 w w0.heap.size (fun k => v.ownBlock = some k) v l) (hne : v.ownBlock ≠ some gm) : LU w0 w bs gm S v l := ⟨h, hm, hne, hv⟩
theorem was_ne {B : Nat} {w0 w wK : World} {bs : List Blk} {gm g0 : Nat} {v : Value} (h : StK B w0 w ((some g0, #[], 9) :: bs) (fun k => k = gm) wK) (hf : v.ownBlock = (Value.slice (some ⟨g0, 0, none⟩) 0 0).ownBlock ∨ ∃ b, v.ownBlock = some b ∧ w.heap.size ≤ b) : v.ownBlock ≠ some gm := by
  intro e
  rcases hf with hf | ⟨b, hf, hb⟩
  · rw [e] at hf
    have : gm = g0 := by
      have h2 : (Value.slice (some ⟨g0, 0, none⟩) 0 0).ownBlock = some g0 := rfl
      rw [h2] at hf
      injection hf
    exact h.far _ List.mem_cons_self g0 rfl this.symm
  · rw [e] at hf
    injection hf with hf
    have := (h.held gm rfl).1
    omega
theorem lk_get {w : World} {gm n : Nat} {S : Int → Bool} {b : Bool} (h : setIs w gm n S) (i : Int) (hi : (Lit.int .i64 i).wf = true) (hS : S i = b) : (Instr.lookup 33 (.map (some gm)) (.int .i64 i) false).run Tryd.prog w = .ok (.bool b) w := by
  rw [setIs_get h i hi, hS]
theorem pack4 {w0 w wK : World} {bs : List Blk} {K : Nat → Prop} {gm : Nat} {S : Int → Bool} {u1 u2 : Value} {l1 l2 : List ByteArray} (h : StK w0.heap.size w0 w bs K wK) (hm : setIs wK gm 16 S) (h1 : RD w0 wK K u1 l1) (h2 : RD w0 wK K u2 l2) : ∃ wk, StK w0.heap.size w0 w bs K wk ∧ setIs wk gm 16 S ∧ RD w0 wk K u1 l1 ∧ RD w0 wk K u2 l2 := ⟨wK, h, hm, h1, h2⟩
set_option maxHeartbeats 16000000 in
set_option maxRecDepth 100000 in
theorem unseen_main (R : List Int) (pc : Int) (s : List Pg) (A : Option Addr) (c : Nat) (l : List ByteArray) (fl n : Int) (w : World) (hR : Rok R) (hp : 0 ≤ pc ∧ pc < 4294967296) (hs : s.length = 16) (hfr : ∀ p ∈ s, (Lit.int .i64 p.fr).wf = true) (hr : Kd.C Kd.string w A l.length l) (hc : l.length ≤ c) (hL : Laid w) (hn0 : 0 ≤ n) (hn1 : n < 256) (kw : Nat) (hwd : hibernacletop_wild.f kw l = some false) (hl : l.length ≤ 20) :
    Calls Tryd.prog 4 #[.agg (cpv R pc), .agg (spv s), .slice A l.length c, .int .u8 fl, .int .u8 n] w fun e w' => e = .returned (.bool true) ∧ Below w.heap.size w w' := by
  have HS := Aside0.mk (St.start w)
  have HR := Aside0.mk hr
  have HC := Aside0.mk hc
  have HRK := Aside0.mk hR
  have HPC := Aside0.mk hp
  have HWD := Aside0.mk hwd
  have HL := Aside0.mk hl
  have HLD := Aside0.mk hL
  have HN0 := Aside0.mk hn0
  have HN1 := Aside0.mk hn1
  have HFR := Aside0.mk hfr
  have SLEN := Aside0.mk hs
  obtain ⟨kp, zp, hpg⟩ := page_ex fl
  have HPG := Aside0.mk hpg
  obtain ⟨N, hN⟩ : ∃ N : Nat, n % 60 = (N : Int) := ⟨(n % 60).toNat, by omega⟩
  have HNN := Aside0.mk hN
  have hNb : (N : Int) ≤ 1000 := by omega
  have hl20 : (l.length : Int) ≤ 1000 := by omega
  clear hr hc hR hp hwd hl hL hn0 hn1 hfr hN hpg
  go_enter Tryd.func4, Tryd.ntmps4
  go_wp2_with (first | ((with_reducible refine gate_dst (N := 5) rfl ?_); refine xl_box HS.out rfl 5 rfl (cpv R pc) 25 ?hr ?_; (case hr => first | (go_simp; done) | (go_simp; rfl)); intro gc w_ hs_; clear HS; have HS := Aside0.mk hs_; clear hs_) | ((with_reducible refine gate_dst (N := 6) rfl ?_); refine xl_box HS.out rfl 6 rfl (spv s) 29 ?hr ?_; (case hr => first | (go_simp; done) | (go_simp; rfl)); intro gs w_ hs_; clear HS; have HS := Aside0.mk hs_; clear hs_) | ((with_reducible refine gate_callee (f := 5) rfl ?_); refine goesL_ (some 25) rfl rfl Tryd.func5 (by kernel_rfl) rfl #[.slice A l.length c] rfl (by (try simp only [List.map_toArray, List.map_cons, List.map_nil]); first | done | rfl) ?_; refine (hibernacletop_wild.calls kw A c l false _ (Kd.C_below HR.out HS.out.below) HC.out HWD.out).mono ?_; rintro e w_ ⟨rfl, hb_⟩; refine ⟨_, rfl, ?_⟩; have hs_ := HS.out.later (drawn_below hb_); clear HS; have HS := Aside0.mk hs_; clear hs_ hb_) | ((with_reducible refine gate_dst (N := 27) rfl ?_); refine xl_makeSet HS.out rfl 27 rfl (by first | kernel_rfl | (go_simp; rfl)) ?_; intro gm w_ hs_ hm_ hb_; clear HS; have HK := Aside0.mk hs_; have HM := Aside0.mk hm_; have HG := Aside0.mk hb_; clear hs_ hm_ hb_) | ((with_reducible refine gate_dst (N := 28) rfl ?_); refine xl_loadRowK HK.out 0 gs (spv s) 29 rfl rfl 29 (.tmp 6) rfl rfl (by kernel_rfl) (space_info hs) ?_))
  go_loopw [29] (fun i wr => L1 w gs gc gm R pc s (fun p j => p.is && j == p.fr) i wr) (fun i _ => 16 - (intOf i).toNat)
  case atStart => exact ⟨0, by omega, rfl, HK.out.now, setIs_kept HM.out (HK.out.held gm rfl).2⟩
  case round =>
    clear HK HM
    obtain ⟨k, hk, rfl, hs_, hm_⟩ := hrel
    have HK := Aside0.mk hs_
    have HM := Aside0.mk hm_
    clear hs_ hm_
    by_cases hlt : k < 16
    · obtain ⟨p, hpk⟩ : ∃ p, s[k]? = some p := ⟨s[k], List.getElem?_eq_getElem (by rw [SLEN.out]; exact hlt)⟩
      have HP := Aside0.mk hpk
      have HWF := Aside0.mk (HFR.out p (List.mem_of_getElem? hpk))
      have HK16 := Aside0.mk hlt
      clear hpk
      obtain ⟨pis, pwr, pfr⟩ := p
      dsimp only at HWF
      cases pis
      · go_wp2_with (first | ((with_reducible refine gate_dst (N := 31) rfl ?_); refine xl_indexv rfl 29 (.tmp 28) (.tmp 29) rfl _ _ rfl rfl (.agg #[.bool false, .bool pwr, .int .i64 pfr]) (index29 HP.out HK16.out _) ?_) | ((with_reducible refine gate_dst (N := 13) rfl ?_); refine xl_boxK HK.out rfl 13 rfl #[.bool false, .bool false, .int .i64 0] 27 ?hr ?_; (case hr => first | (go_simp; done) | (go_simp; rfl)); intro gp w_ hs_; clear HK; have HK := Aside0.mk hs_; clear hs_) | ((with_reducible refine gate_store (t := 27) (p := 13) rfl ?_); refine xl_storeRowK HK.out 0 gp #[.bool false, .bool false, .int .i64 0] 27 rfl rfl rfl 27 (.tmp 13) (.tmp 31) rfl rfl #[.bool false, .bool pwr, .int .i64 pfr] rfl (by kernel_rfl) rfl (by simp [Value.oneCell']) ?_; intro w_ hs_; clear HK; have HK := Aside0.mk hs_; clear hs_) | ((with_reducible refine gate_dst (N := 33) rfl ?_); refine xl_loadK HK.out 0 gp #[.bool false, .bool pwr, .int .i64 pfr] 27 rfl rfl 4 (.tmp 32) rfl 0 rfl (by kernel_rfl) (.bool false) rfl ?_) | ((with_reducible refine gate_dst (N := 36) rfl ?_); refine xl_loadK HK.out 0 gp #[.bool false, .bool pwr, .int .i64 pfr] 27 rfl rfl 3 (.tmp 35) rfl 2 rfl (by kernel_rfl) (.int .i64 pfr) rfl ?_) | (at_mapUpdate; refine xl_setPut (HK.out.sub (.cons _ (List.Sublist.refl _))) HM.out HG.out (by unfold maxLen; have := HK16.out; omega) rfl rfl (.tmp 34) (.tmp 36) (.const (.bool true)) rfl rfl pfr rfl rfl HWF.out ?_; intro w_ hs_ hm_; clear HK HM; have HK := Aside0.mk hs_; have HM := Aside0.mk hm_; clear hs_ hm_))
        go_roundw
        case rel => exact ⟨k + 1, by omega, by go_num, (HK.out.sub (.cons _ (List.Sublist.refl _))).now, l1_no HP.out (fun j => by simp) (setIs_kept HM.out (HK.out.held gm rfl).2)⟩
        case measure => simp [intOf]; omega
      · go_wp2_with (first | ((with_reducible refine gate_dst (N := 31) rfl ?_); refine xl_indexv rfl 29 (.tmp 28) (.tmp 29) rfl _ _ rfl rfl (.agg #[.bool true, .bool pwr, .int .i64 pfr]) (index29 HP.out HK16.out _) ?_) | ((with_reducible refine gate_dst (N := 13) rfl ?_); refine xl_boxK HK.out rfl 13 rfl #[.bool false, .bool false, .int .i64 0] 27 ?hr ?_; (case hr => first | (go_simp; done) | (go_simp; rfl)); intro gp w_ hs_; clear HK; have HK := Aside0.mk hs_; clear hs_) | ((with_reducible refine gate_store (t := 27) (p := 13) rfl ?_); refine xl_storeRowK HK.out 0 gp #[.bool false, .bool false, .int .i64 0] 27 rfl rfl rfl 27 (.tmp 13) (.tmp 31) rfl rfl #[.bool true, .bool pwr, .int .i64 pfr] rfl (by kernel_rfl) rfl (by simp [Value.oneCell']) ?_; intro w_ hs_; clear HK; have HK := Aside0.mk hs_; clear hs_) | ((with_reducible refine gate_dst (N := 33) rfl ?_); refine xl_loadK HK.out 0 gp #[.bool true, .bool pwr, .int .i64 pfr] 27 rfl rfl 4 (.tmp 32) rfl 0 rfl (by kernel_rfl) (.bool true) rfl ?_) | ((with_reducible refine gate_dst (N := 36) rfl ?_); refine xl_loadK HK.out 0 gp #[.bool true, .bool pwr, .int .i64 pfr] 27 rfl rfl 3 (.tmp 35) rfl 2 rfl (by kernel_rfl) (.int .i64 pfr) rfl ?_) | (at_mapUpdate; refine xl_setPut (HK.out.sub (.cons _ (List.Sublist.refl _))) HM.out HG.out (by unfold maxLen; have := HK16.out; omega) rfl rfl (.tmp 34) (.tmp 36) (.const (.bool true)) rfl rfl pfr rfl rfl HWF.out ?_; intro w_ hs_ hm_; clear HK HM; have HK := Aside0.mk hs_; have HM := Aside0.mk hm_; clear hs_ hm_))
        go_roundw
        case rel => exact ⟨k + 1, by omega, by go_num, HK.out.now, l1_yes HP.out (fun j => by simp) HM.out⟩
        case measure => simp [intOf]; omega
    · obtain rfl : k = 16 := by omega
      rw [take16 SLEN.out] at HM
      clear hk hlt
      go_wp2_with (first | ((with_reducible refine gate_dst (N := 38) rfl ?_); refine xl_emptyRow HK.out rfl 38 rfl (by first | kernel_rfl | (go_simp; rfl)) ?_; intro g0 w_ hs_; clear HK; have HK := Aside0.mk hs_; clear hs_) | ((with_reducible refine gate_dst (N := 40) rfl ?_); refine Kd.R_append_row Value.string ByteArray.empty (h1 := fun _ => rfl) (w0 := w) w.heap.size rfl (.tmp 38) (.tmp 39) 30 9 (.string ByteArray.empty) 16 rfl Tryd.underlying30 (by kernel_rfl) rfl (by decide) (.slice (some ⟨g0, 0, none⟩) 0 0) [] l A l.length c (fun _ => True) rfl rfl (fun _ _ => trivial) (empty_R HK.out) (Kd.C_below HR.out HK.out.st.below) HK.out.st.below HK.out.st.low (by have := HL.out; simp only [List.length_nil]; omega) ?_; intro v5 w_ ho_ hb_ hgr_ hfr_; have hw_ := was_add HK.out ho_ hgr_ hfr_; obtain ⟨Aw, cw, rfl, hcw_, _⟩ := R_form hw_.2.1; have HLU := Aside0.mk (lu_first hw_.1 (setIs_kept HM.out (hw_.2.2 gm rfl)) hw_.2.1 (was_ne HK.out hfr_)); clear HK HM; clear hw_ ho_ hb_ hgr_ hfr_ hcw_))
      go_loopw [43] (fun i wr => L2u w [(some gs, spv s, 29), (some gc, cpv R pc, 25)] gm s (.slice Aw l.length cw) l i wr) (fun i _ => l.length - (intOf i).toNat)
      case atStart => exact ⟨0, Nat.zero_le _, rfl, l, HLU.out, rfl, fun _ _ => rfl⟩
      case round =>
        clear HLU
        obtain ⟨j, hj, rfl, o, hlu_, hol_, hag_⟩ := hrel
        have HLU := Aside0.mk hlu_
        have HOL := Aside0.mk hol_
        have HAG := Aside0.mk hag_
        clear hlu_ hag_
        by_cases hlt : j < l.length
        · have hlt2 : (j : Int) < (l.length : Int) := by omega
          have HJ := Aside0.mk hlt
          have HWJ : Aside0 ((Lit.int .i64 (j : Int)).wf = true) := ⟨wf_small (by omega)⟩
          obtain ⟨gw, cw2, hbase⟩ := R_base HLU.out.r (j := j) (by rw [hol_]; exact hlt)
          rw [hol_] at hbase
          injection hbase with hb1 hb2 hb3
          subst hb1
          clear hol_ hj hlt hb2 hb3
          cases hse : seenB s (j : Int) with
          | true =>
            have HSJ := Aside0.mk hse
            clear hse
            go_wp2_with (first | ((with_reducible refine gate_dst (N := 48) rfl ?_); refine xl_lookup rfl 33 (.tmp 46) (.tmp 47) false rfl (.map (some gm)) (.int .i64 j) rfl rfl (.bool true) (lk_get HLU.out.m j HWJ.out HSJ.out) ?_))
            go_roundw
            case rel => exact ⟨j + 1, by have := HJ.out; omega, by go_num, o, HLU.out, HOL.out, HAG.out⟩
            case measure => simp [intOf]; have := HJ.out; omega
          | false =>
            have HSJ := Aside0.mk hse
            clear hse
            go_wp2_with (first | ((with_reducible refine gate_dst (N := 48) rfl ?_); refine xl_lookup rfl 33 (.tmp 46) (.tmp 47) false rfl (.map (some gm)) (.int .i64 j) rfl rfl (.bool false) (lk_get HLU.out.m j HWJ.out HSJ.out) ?_) | ((with_reducible refine gate_callee (f := 9) rfl ?_); refine goesL_ (some 53) rfl rfl Tryd.func9 (by kernel_rfl) rfl #[.int .u8 fl] rfl (by (try simp only [List.map_toArray, List.map_cons, List.map_nil]); first | done | rfl) ?_; refine (hibernacletop_page.calls kp fl zp _ HPG.out).mono ?_; rintro e w_ ⟨rfl, hb_⟩; refine ⟨_, rfl, ?_⟩; have hl_ := HLU.out.later hb_; clear HLU; have HLU := Aside0.mk hl_; clear hl_; clear hb_) | ((with_reducible refine gate_dst (N := 54) rfl ?_); refine xl_index rfl 30 (.tmp 50) (.tmp 51) rfl (.slice (some ⟨gw, 0, none⟩) l.length cw) (.int .i64 j) rfl rfl (.pointer (some ⟨gw, (j : Int).toNat, none⟩)) (fun w => idx30g gw l.length cw j (by omega) hlt2 w) ?_) | ((with_reducible refine gate_store (t := 9) (p := 54) rfl ?_); refine xl_putText HLU.out rfl rfl (.tmp 54) (.tmp 53) rfl j (by omega) hlt2 rfl zp rfl ?_; intro w_ hl_; clear HLU; have HLU := Aside0.mk hl_; clear hl_))
            go_roundw
            case rel => exact ⟨j + 1, by have := HJ.out; omega, by go_num, _, HLU.out, by rw [List.length_set]; exact HOL.out, seen_set HAG.out HSJ.out⟩
            case measure => simp [intOf]; have := HJ.out; omega
        · obtain rfl : j = l.length := by omega
          clear hj hlt
          go_wp2_with (first | ((with_reducible refine gate_dst (N := 56) rfl ?_); refine xl_loadRowK HLU.out.k 1 gc (cpv R pc) 25 rfl rfl 25 (.tmp 5) rfl rfl (by kernel_rfl) (cpu_info pc HRK.out.1) ?_) | ((with_reducible refine gate_dst (N := 16) rfl ?_); refine xl_boxK HLU.out.k rfl 16 rfl (Array.replicate 17 (.int .u32 0)) 25 ?hr ?_; (case hr => first | (go_simp; done) | (go_simp; rfl)); intro gd w_ hs_; have HK := Aside0.mk hs_; clear hs_) | ((with_reducible refine gate_store (t := 25) (p := 16) rfl ?_); refine xl_storeRowK HK.out 0 gd (Array.replicate 17 (.int .u32 0)) 25 rfl rfl rfl 25 (.tmp 16) (.tmp 56) rfl rfl (cpv R pc) rfl (cpu_info pc HRK.out.1) (by simp [cpv_size pc HRK.out.1]) (cpv_one R pc) ?_; intro w_ hs_; clear HK; have HK := Aside0.mk hs_; clear hs_) | ((with_reducible refine gate_dst (N := 58) rfl ?_); refine xl_val rfl (.int .i64 n) ?hr ?_; (case hr => (first | (go_simp; done) | exact val53 (x := .tmp 57) ⟨rfl, rfl⟩ (conv53 n HN0.out HN1.out _)))) | ((with_reducible refine gate_dst (N := 59) rfl ?_); refine xl_bin rfl .rem 3 3 (.tmp 58) (.const (.int .i64 60)) rfl (.int .i64 n) (.int .i64 60) rfl rfl (.int .i64 N) rfl (fun w => rem_lit 60 n N HN0.out HN1.out (by decide) (by decide) HNN.out w) ?_))
          have hk_ := HK.out
          have HLW := Aside0.mk (LW.of_held hk_ (.inl rfl) HLU.out.m (RD.of_arg HR.out HC.out) (RD.of_own HLU.out.r (fun k hk => .inr hk)))
          have HAGR : Aside0 (Agree s l o) := ⟨hol_.symm, fun j hj => (HAG.out j hj).symm⟩
          clear hk_ HK HLU hol_ HOL HAG
          go_loopw [2, 14, 60] (fun fv ov i wr => L3u w gd gs gc gm s l N fv ov i wr) (fun _ _ i _ => N - (intOf i).toNat)
          case atStart => exact ⟨0, Nat.zero_le _, rfl, R, pc, l, o, _, HLW.out, HRK.out, HPC.out, HAGR.out, rfl⟩
          case round =>
            clear HLW HAGR HRK HPC HC HR HWD
            obtain ⟨k, hk, rfl, R, pc, lk, ok, K, hlw_, hR_, hp_, hag_, hlk_⟩ := hrel
            have hok_ : ok.length = l.length := by rw [← hag_.1]; exact hlk_
            obtain ⟨A1, c1, rfl, hc1_, hC1_⟩ := hlw_.f
            obtain ⟨A2, c2, rfl, hc2_, hC2_⟩ := hlw_.o
            have HK := Aside0.mk hlw_.k
            have HM := Aside0.mk hlw_.m
            have HGM := Aside0.mk hlw_.g
            have HF := Aside0.mk hlw_.f
            have HO := Aside0.mk hlw_.o
            have HCC1 := Aside0.mk hc1_
            have HCC2 := Aside0.mk hc2_
            have HRK := Aside0.mk hR_
            have HPC := Aside0.mk hp_
            have HAG := Aside0.mk hag_
            have HLK := Aside0.mk hlk_
            have HOK := Aside0.mk hok_
            clear hlw_ hc1_ hc2_ hR_ hp_ hag_
            rw [hlk_, hok_]
            rw [hlk_] at hC1_ HF
            rw [hok_] at hC2_ HO
            have HC1 := Aside0.mk hC1_
            have HC2 := Aside0.mk hC2_
            clear hC1_ hC2_ hlk_ hok_
            by_cases hlt : k < N
            · have hlt2 : (k : Int) < (N : Int) := by omega
              have HKN := Aside0.mk hlt
              clear hk hlt HF HO
              have SC1 := Aside0.mk (fun (w1 : World) (hr : Kd.C Kd.string w1 A1 lk.length lk) => step_calls R pc A1 c1 lk s w1 HRK.out.1 HRK.out.2 HPC.out.1 hr HCC1.out SLEN.out (by rw [HLK.out]; have := HL.out; omega))
              have SC2 := Aside0.mk (fun (w1 : World) (hr : Kd.C Kd.string w1 A2 ok.length ok) => step_calls R pc A2 c2 ok s w1 HRK.out.1 HRK.out.2 HPC.out.1 hr HCC2.out SLEN.out (by rw [HOK.out]; have := HL.out; omega))
              have GD := Aside0.mk (good_step lk s R pc HRK.out HPC.out)
              have AL := Aside0.mk (agree_step HAG.out R pc)
              rw [HLK.out] at SC1
              rw [HOK.out] at SC2
              revert SC1 SC2 GD AL
              generalize stepT lk s R pc = oo
              generalize stepT ok s R pc = o2
              obtain ⟨R', pc', l', kd, nn⟩ := oo
              obtain ⟨R2, pc2, l2, kd2, nn2⟩ := o2
              intro SC1 SC2 GD AL
              obtain ⟨e1, e2, e3, e4, e5⟩ := AL.out
              dsimp only at SC1 SC2 e1 e2 e3 e4 e5
              subst e1
              subst e2
              subst e3
              subst e4
              have HAG2 := Aside0.mk e5
              have LEN1 : Aside0 (l'.length = l.length) := ⟨by rw [GD.out.len, HLK.out]⟩
              have LEN2 : Aside0 (l2.length = l.length) := ⟨by rw [← HAG2.out.1]; exact LEN1.out⟩
              have HRG : Aside0 (Rok R') := ⟨GD.out.rok⟩
              have HPG2 : Aside0 (0 ≤ pc' ∧ pc' < 4294967296) := ⟨GD.out.pc0⟩
              clear AL GD e5
              go_wp2_with (first | ((with_reducible refine gate_dst (N := 63) rfl ?_); refine xl_loadRowK HK.out 2 gc (cpv R pc) 25 rfl rfl 25 (.tmp 5) rfl rfl (by kernel_rfl) (cpu_info pc HRK.out.1) ?_) | ((with_reducible refine gate_dst (N := 64) rfl ?_); refine xl_loadRowK HK.out 1 gs (spv s) 29 rfl rfl 29 (.tmp 6) rfl rfl (by kernel_rfl) (space_info SLEN.out) ?_) | ((with_reducible refine gate_callee (f := 7) rfl ?_); refine goesL_ (some 66) rfl rfl Tryd.func7 (by kernel_rfl) rfl #[.agg (cpv R pc), .agg (spv s), .slice A1 l.length c1] rfl (by (try simp only [List.map_toArray, List.map_cons, List.map_nil]); first | done | rfl) ?_; refine (SC1.out _ (HC1.out _ HK.out.st.below (fun k hk => (HK.out.held k hk).2))).mono ?_; rintro e w_ ⟨u1, rfl, hu_, hb_⟩; refine ⟨_, rfl, ?_⟩; obtain ⟨Au1, cu1, hu3_, hc3_, _⟩ := R_form hu_; rw [LEN1.out] at hu3_; subst hu3_; have hk_ := stk_new HK.out hu_ hb_; have hm2_ := setIs_kept HM.out (hk_.2.2 gm HGM.out); have hu1_ := RD.of_own (w0 := w) (w := w_) (K := fun k => K k ∨ (Value.slice Au1 l.length cu1).ownBlock = some k) hk_.2.1 (fun k hk => .inr hk); have hc2_ : ∀ w1 : World, Below w.heap.size w w1 → (∀ k, (K k ∨ (Value.slice Au1 l.length cu1).ownBlock = some k) → w1.heap[k]? = w_.heap[k]?) → Kd.C Kd.string w1 A2 l.length ok := fun w1 hb h => HC2.out w1 hb (fun k hk => (h k (.inl hk)).trans (hk_.2.2 k hk)); clear HC2; have HC2 := Aside0.mk hc2_; have HU1 := Aside0.mk hu1_; clear hu1_ hc2_; clear HK HM; have HK := Aside0.mk hk_.1; have HM := Aside0.mk hm2_; clear hk_ hm2_ hu_ hb_ hc3_) | ((with_reducible refine gate_dst (N := 17) rfl ?_); refine xl_boxK HK.out rfl 17 rfl (Array.replicate 17 (.int .u32 0)) 25 ?hr ?_; (case hr => first | (go_simp; done) | (go_simp; rfl)); intro gx w_ hs_; clear HK; have HK := Aside0.mk hs_; clear hs_) | ((with_reducible refine gate_dst (N := 19) rfl ?_); refine xl_boxK HK.out rfl 19 rfl #[.int .i64 0, .int .u32 0] 35 ?hr ?_; (case hr => first | (go_simp; done) | (go_simp; rfl)); intro ge w_ hs_; clear HK; have HK := Aside0.mk hs_; clear hs_) | ((with_reducible refine gate_store (t := 25) (p := 17) rfl ?_); refine xl_storeRowK HK.out 1 gx (Array.replicate 17 (.int .u32 0)) 25 rfl rfl rfl 25 (.tmp 17) (.tmp 67) rfl rfl (cpv R' pc') rfl (cpu_info pc' HRG.out.1) (by simp [cpv_size pc' HRG.out.1]) (cpv_one R' pc') ?_; intro w_ hs_; clear HK; have HK := Aside0.mk hs_; clear hs_) | ((with_reducible refine gate_store (t := 35) (p := 19) rfl ?_); refine xl_storeRowK HK.out 0 ge #[.int .i64 0, .int .u32 0] 35 rfl rfl rfl 35 (.tmp 19) (.tmp 69) rfl rfl #[.int .i64 kd, .int .u32 nn] rfl (by kernel_rfl) rfl (by simp [Value.oneCell']) ?_; intro w_ hs_; clear HK; have HK := Aside0.mk hs_; clear hs_) | ((with_reducible refine gate_dst (N := 71) rfl ?_); refine xl_loadRowK HK.out 2 gd (cpv R pc) 25 rfl rfl 25 (.tmp 16) rfl rfl (by kernel_rfl) (cpu_info pc HRK.out.1) ?_) | ((with_reducible refine gate_dst (N := 72) rfl ?_); refine xl_loadRowK HK.out 3 gs (spv s) 29 rfl rfl 29 (.tmp 6) rfl rfl (by kernel_rfl) (space_info SLEN.out) ?_) | ((with_reducible refine gate_callee (f := 7) rfl ?_); refine goesL_ (some 74) rfl rfl Tryd.func7 (by kernel_rfl) rfl #[.agg (cpv R pc), .agg (spv s), .slice A2 l.length c2] rfl (by (try simp only [List.map_toArray, List.map_cons, List.map_nil]); first | done | rfl) ?_; refine (SC2.out _ (HC2.out _ HK.out.st.below (fun k hk => (HK.out.held k hk).2))).mono ?_; rintro e w_ ⟨u2, rfl, hu_, hb_⟩; refine ⟨_, rfl, ?_⟩; obtain ⟨Au2, cu2, hu3_, hc3_, _⟩ := R_form hu_; rw [LEN2.out] at hu3_; subst hu3_; have hk_ := stk_new HK.out hu_ hb_; have hm2_ := setIs_kept HM.out (hk_.2.2 gm (.inl HGM.out)); have hu2_ := RD.of_own (w0 := w) (w := w_) (K := fun k => (K k ∨ (Value.slice Au1 l.length cu1).ownBlock = some k) ∨ (Value.slice Au2 l.length cu2).ownBlock = some k) hk_.2.1 (fun k hk => .inr hk); have hu1_ := HU1.out.move (w2 := w_) (K' := fun k => (K k ∨ (Value.slice Au1 l.length cu1).ownBlock = some k) ∨ (Value.slice Au2 l.length cu2).ownBlock = some k) (fun k hk => hk_.2.2 k hk) (fun k hk => .inl hk); clear HU1; have HU1 := Aside0.mk hu1_; have HU2 := Aside0.mk hu2_; clear hu1_ hu2_; clear HK HM; have HK := Aside0.mk hk_.1; have HM := Aside0.mk hm2_; clear hk_ hm2_ hu_ hb_ hc3_) | ((with_reducible refine gate_dst (N := 20) rfl ?_); refine xl_boxK HK.out rfl 20 rfl (Array.replicate 17 (.int .u32 0)) 25 ?hr ?_; (case hr => first | (go_simp; done) | (go_simp; rfl)); intro gy w_ hs_; clear HK; have HK := Aside0.mk hs_; clear hs_) | ((with_reducible refine gate_dst (N := 22) rfl ?_); refine xl_boxK HK.out rfl 22 rfl #[.int .i64 0, .int .u32 0] 35 ?hr ?_; (case hr => first | (go_simp; done) | (go_simp; rfl)); intro gf w_ hs_; clear HK; have HK := Aside0.mk hs_; clear hs_) | ((with_reducible refine gate_store (t := 25) (p := 20) rfl ?_); refine xl_storeRowK HK.out 1 gy (Array.replicate 17 (.int .u32 0)) 25 rfl rfl rfl 25 (.tmp 20) (.tmp 75) rfl rfl (cpv R' pc') rfl (cpu_info pc' HRG.out.1) (by simp [cpv_size pc' HRG.out.1]) (cpv_one R' pc') ?_; intro w_ hs_; clear HK; have HK := Aside0.mk hs_; clear hs_) | ((with_reducible refine gate_store (t := 35) (p := 22) rfl ?_); refine xl_storeRowK HK.out 0 gf #[.int .i64 0, .int .u32 0] 35 rfl rfl rfl 35 (.tmp 22) (.tmp 77) rfl rfl #[.int .i64 kd, .int .u32 nn] rfl (by kernel_rfl) rfl (by simp [Value.oneCell']) ?_; intro w_ hs_; clear HK; have HK := Aside0.mk hs_; clear hs_) | ((with_reducible refine gate_dst (N := 78) rfl ?_); refine xl_loadRowK HK.out 3 gx (cpv R' pc') 25 rfl rfl 25 (.tmp 17) rfl rfl (by kernel_rfl) (cpu_info pc' HRG.out.1) ?_) | ((with_reducible refine gate_dst (N := 79) rfl ?_); refine xl_loadRowK HK.out 1 gy (cpv R' pc') 25 rfl rfl 25 (.tmp 20) rfl rfl (by kernel_rfl) (cpu_info pc' HRG.out.1) ?_) | ((with_reducible refine gate_dst (N := 80) rfl ?_); refine xl_eqrow rfl .neq 25 25 (.tmp 78) (.tmp 79) rfl (cpv R' pc') (cpv R' pc') rfl rfl (by kernel_rfl) (.bool false) (neq_cpu pc' HRG.out.1 _) ?_) | ((with_reducible refine gate_dst (N := 82) rfl ?_); refine xl_guard (by kernel_rfl) ?_; refine xl_loadRowK HK.out 2 ge #[.int .i64 kd, .int .u32 nn] 35 rfl rfl 35 (.tmp 19) rfl rfl (by kernel_rfl) (by kernel_rfl) ?_) | ((with_reducible refine gate_dst (N := 83) rfl ?_); refine xl_guard (by kernel_rfl) ?_; refine xl_loadRowK HK.out 0 gf #[.int .i64 kd, .int .u32 nn] 35 rfl rfl 35 (.tmp 22) rfl rfl (by kernel_rfl) (by kernel_rfl) ?_) | ((with_reducible refine gate_dst (N := 84) rfl ?_); refine xl_guard (by kernel_rfl) ?_; refine xl_eqrow rfl .neq 35 35 (.tmp 82) (.tmp 83) rfl #[.int .i64 kd, .int .u32 nn] #[.int .i64 kd, .int .u32 nn] rfl rfl (by kernel_rfl) (.bool false) (neq_event kd nn _) ?_))
              obtain ⟨wK2, hwk_, hm_, hu1_, hu2_⟩ := pack4 HK.out HM.out HU1.out HU2.out
              clear HK HM HU1 HU2
              have HK := Aside0.mk hwk_
              have HM := Aside0.mk hm_
              have HU1 := Aside0.mk hu1_
              have HU2 := Aside0.mk hu2_
              clear hwk_ hm_ hu1_ hu2_
              refine region_det [(93, .agg (cpv R' pc')), (94, .agg (cpv R' pc')), (95, .slice Au1 l.length cu1), (96, .slice Au2 l.length cu2), (2, .slice Au1 l.length cu1), (14, .slice Au2 l.length cu2)] (fun b w' => StK w.heap.size w w' [(some gf, #[.int .i64 kd, .int .u32 nn], 35), (some gy, cpv R' pc', 25), (some ge, #[.int .i64 kd, .int .u32 nn], 35), (some gx, cpv R' pc', 25), (some gd, bif b 5 then cpv R' pc' else cpv R pc, 25), (some gs, spv s, 29), (some gc, bif b 4 then cpv R' pc' else cpv R pc, 25)] (fun k => (K k ∨ (Value.slice Au1 l.length cu1).ownBlock = some k) ∨ (Value.slice Au2 l.length cu2).ownBlock = some k) wK2) (by kernel_rfl) (by kernel_rfl) (by kernel_rfl) (by kernel_rfl) HK.out.drew (fun af E => ⟨?_, ?_, ?_, ?_, ?_, ?_, ?_, ?_, trivial⟩) ?_
              · exact fun b w' _ _ h => may_loadRowK h 3 gx (cpv R' pc') 25 rfl rfl 25 (.tmp 17) rfl (by rw [E]; rfl) (by kernel_rfl) (cpu_info pc' HRG.out.1) (fun d hd => by cases hd; rw [E]; rfl) h
              · exact fun b w' _ _ h => may_loadRowK h 1 gy (cpv R' pc') 25 rfl rfl 25 (.tmp 20) rfl (by rw [E]; rfl) (by kernel_rfl) (cpu_info pc' HRG.out.1) (fun d hd => by cases hd; rw [E]; rfl) h
              · exact fun b w' _ _ h => may_move rfl _ (by first | exact .inl rfl | exact .inr rfl) (.slice Au1 l.length cu1) (by rw [E]; rfl) (fun d hd => by cases hd; rw [E]; rfl) h
              · exact fun b w' _ _ h => may_move rfl _ (by first | exact .inl rfl | exact .inr rfl) (.slice Au2 l.length cu2) (by rw [E]; rfl) (fun d hd => by cases hd; rw [E]; rfl) h
              · exact fun b w' _ _ h => may_storeRowK h 6 gc _ 25 rfl rfl rfl 25 (.tmp 5) (.tmp 93) rfl (by rw [E]; rfl) (cpv R' pc') (by rw [E]; rfl) (cpu_info pc' HRG.out.1) (by cases b 4 <;> simp [cpv_size pc HRK.out.1, cpv_size pc' HRG.out.1]) (cpv_one R' pc') (fun _ h => h)
              · exact fun b w' _ _ h => may_storeRowK h 4 gd _ 25 rfl rfl rfl 25 (.tmp 16) (.tmp 94) rfl (by rw [E]; rfl) (cpv R' pc') (by rw [E]; rfl) (cpu_info pc' HRG.out.1) (by cases b 5 <;> simp [cpv_size pc HRK.out.1, cpv_size pc' HRG.out.1]) (cpv_one R' pc') (fun _ h => h)
              · exact fun b w' _ _ h => may_move rfl _ (by first | exact .inl rfl | exact .inr rfl) (.slice Au1 l.length cu1) (by rw [E]; rfl) (fun d hd => by cases hd; rw [E]; rfl) h
              · exact fun b w' _ _ h => may_move rfl _ (by first | exact .inl rfl | exact .inr rfl) (.slice Au2 l.length cu2) (by rw [E]; rfl) (fun d hd => by cases hd; rw [E]; rfl) h
              intro b w_ hall h
              rw [hall 4 (by decide), hall 5 (by decide)] at h
              simp only [cond_true] at h
              clear HK
              have HK := Aside0.mk h
              clear h hall
              simp only [puts]
              go_wp2
              go_roundw
              case rel => exact ⟨k + 1, by have := HKN.out; omega, by go_num, R', pc', l', l2, _, LW.of_held (HK.out.sub (.cons _ (.cons _ (.cons _ (.cons _ (List.Sublist.refl _)))))) (.inl (.inl HGM.out)) HM.out HU1.out HU2.out, HRG.out, HPG2.out, HAG2.out, LEN1.out⟩
              case measure => simp [intOf]; have := HKN.out; omega
            · obtain rfl : k = N := by omega
              have HLW := Aside0.mk (LW.of_held HK.out HGM.out HM.out HF.out HO.out)
              clear hk hlt HK HM HGM HF HO HCC1 HCC2 HRK HPC HC1 HC2
              go_wp2
              go_loopw [100] (fun i wr => L4u w [(some gd, cpv R pc, 25), (some gs, spv s, 29), (some gc, cpv R pc, 25)] K gm s (.slice A1 l.length c1) (.slice A2 l.length c2) l lk ok i wr) (fun i _ => l.length - (intOf i).toNat)
              case atStart => exact ⟨0, Nat.zero_le _, rfl, HLW.out⟩
              case round =>
                clear HLW
                obtain ⟨j, hj, rfl, hlw_⟩ := hrel
                have HLW := Aside0.mk hlw_
                clear hlw_
                by_cases hlt : j < l.length
                · have hlt2 : (j : Int) < (l.length : Int) := by omega
                  have HJ := Aside0.mk hlt
                  have HWJ : Aside0 ((Lit.int .i64 (j : Int)).wf = true) := ⟨wf_small (by omega)⟩
                  clear hj hlt
                  cases hse : seenB s (j : Int) with
                  | true =>
                    have HSJ := Aside0.mk hse
                    clear hse
                    obtain ⟨a1, rfl⟩ := rd_base HLW.out.f HLW.out.k.st.below (j := (j : Int)) (by omega) (by rw [HLK.out]; exact hlt2)
                    obtain ⟨a2, rfl⟩ := rd_base HLW.out.o HLW.out.k.st.below (j := (j : Int)) (by omega) (by rw [HOK.out]; exact hlt2)
                    go_wp2
                    refine region_det [(103, .map (some gm)), (104, .int .i64 j), (105, .bool true), (106, .bool true), (107, .slice (some a1) l.length c1), (108, .int .i64 j), (109, .pointer (some (a1.add (j : Int).toNat))), (110, .string (rdOf ByteArray.empty lk (j : Int))), (111, .slice (some a2) l.length c2), (112, .int .i64 j), (113, .pointer (some (a2.add (j : Int).toNat))), (114, .string (rdOf ByteArray.empty ok (j : Int))), (115, .bool false), (116, .bool false)] (fun b_ w' => LW w w' [(some gd, cpv R pc, 25), (some gs, spv s, 29), (some gc, cpv R pc, 25)] K gm (seenB s) (.slice (some a1) l.length c1) (.slice (some a2) l.length c2) lk ok) (by kernel_rfl) (by kernel_rfl) (by kernel_rfl) (by kernel_rfl) (HLW.out.later (drawn_below0 _)) (fun af E => ⟨?_, ?_, ?_, ?_, ?_, ?_, ?_, ?_, ?_, ?_, ?_, ?_, ?_, ?_, trivial⟩) ?_
                    · exact fun b w' _ _ h => may_move rfl _ (by first | exact .inl rfl | exact .inr rfl) (.map (some gm)) (by rw [E]; rfl) (fun d hd => by cases hd; rw [E]; rfl) h
                    · exact fun b w' _ _ h => may_move rfl _ (by first | exact .inl rfl | exact .inr rfl) (.int .i64 j) (by rw [E]; rfl) (fun d hd => by cases hd; rw [E]; rfl) h
                    · exact fun b w' _ _ h => may_lookup rfl 33 (.tmp 103) (.tmp 104) false rfl (.map (some gm)) (.int .i64 j) (by rw [E]; rfl) (by rw [E]; rfl) (.bool true) (lk_get h.m j HWJ.out HSJ.out) (fun d hd => by cases hd; rw [E]; rfl) h
                    · exact fun b w' _ _ h => may_move rfl _ (by first | exact .inl rfl | exact .inr rfl) (.bool true) (by rw [E]; rfl) (fun d hd => by cases hd; rw [E]; rfl) h
                    · exact fun b w' _ _ h => may_guard (wanted_of (want := true) (b := true) rfl rfl rfl (by rw [E]; rfl)) (may_move rfl _ (by first | exact .inl rfl | exact .inr rfl) (.slice (some a1) l.length c1) (by rw [E]; rfl) (fun d hd => by cases hd; rw [E]; rfl) h)
                    · exact fun b w' _ _ h => may_guard (wanted_of (want := true) (b := true) rfl rfl rfl (by rw [E]; rfl)) (may_move rfl _ (by first | exact .inl rfl | exact .inr rfl) (.int .i64 j) (by rw [E]; rfl) (fun d hd => by cases hd; rw [E]; rfl) h)
                    · exact fun b w' _ _ h => may_guard (wanted_of (want := true) (b := true) rfl rfl rfl (by rw [E]; rfl)) (may_index rfl 30 (.tmp 107) (.tmp 108) rfl (.slice (some a1) l.length c1) (.int .i64 j) (by rw [E]; rfl) (by rw [E]; rfl) (.pointer (some (a1.add (j : Int).toNat))) (fun w => idx30 a1 l.length c1 j (by omega) hlt2 w) (fun d hd => by cases hd; rw [E]; rfl) h)
                    · exact fun b w' _ _ h => may_guard (wanted_of (want := true) (b := true) rfl rfl rfl (by rw [E]; rfl)) (may_loadc rfl 9 (.tmp 109) rfl (a1.add (j : Int).toNat) (by rw [E]; rfl) (by kernel_rfl) (.string (rdOf ByteArray.empty lk (j : Int))) (rd_cell h.f h.k.st.below (by omega) (by rw [HLK.out]; exact hlt2)) (fun d hd => by cases hd; rw [E]; rfl) h)
                    · exact fun b w' _ _ h => may_guard (wanted_of (want := true) (b := true) rfl rfl rfl (by rw [E]; rfl)) (may_move rfl _ (by first | exact .inl rfl | exact .inr rfl) (.slice (some a2) l.length c2) (by rw [E]; rfl) (fun d hd => by cases hd; rw [E]; rfl) h)
                    · exact fun b w' _ _ h => may_guard (wanted_of (want := true) (b := true) rfl rfl rfl (by rw [E]; rfl)) (may_move rfl _ (by first | exact .inl rfl | exact .inr rfl) (.int .i64 j) (by rw [E]; rfl) (fun d hd => by cases hd; rw [E]; rfl) h)
                    · exact fun b w' _ _ h => may_guard (wanted_of (want := true) (b := true) rfl rfl rfl (by rw [E]; rfl)) (may_index rfl 30 (.tmp 111) (.tmp 112) rfl (.slice (some a2) l.length c2) (.int .i64 j) (by rw [E]; rfl) (by rw [E]; rfl) (.pointer (some (a2.add (j : Int).toNat))) (fun w => idx30 a2 l.length c2 j (by omega) hlt2 w) (fun d hd => by cases hd; rw [E]; rfl) h)
                    · exact fun b w' _ _ h => may_guard (wanted_of (want := true) (b := true) rfl rfl rfl (by rw [E]; rfl)) (may_loadc rfl 9 (.tmp 113) rfl (a2.add (j : Int).toNat) (by rw [E]; rfl) (by kernel_rfl) (.string (rdOf ByteArray.empty ok (j : Int))) (rd_cell h.o h.k.st.below (by omega) (by rw [HOK.out]; exact hlt2)) (fun d hd => by cases hd; rw [E]; rfl) h)
                    · exact fun b w' _ _ h => may_guard (wanted_of (want := true) (b := true) rfl rfl rfl (by rw [E]; rfl)) (may_bin rfl .neq 9 9 (.tmp 110) (.tmp 114) rfl (.string (rdOf ByteArray.empty lk (j : Int))) (.string (rdOf ByteArray.empty ok (j : Int))) (by rw [E]; rfl) (by rw [E]; rfl) (.bool false) rfl (fun w => by rw [← agree_rd HAG.out HSJ.out]; exact neq9 _ _ w) (fun d hd => by cases hd; rw [E]; rfl) h)
                    · exact fun b w' _ _ h => may_pick rfl (.tmp 106) (.tmp 115) (.const (.bool false)) rfl true (by rw [E]; rfl) (.bool false) (by first | rfl | (rw [E]; rfl)) (fun d hd => by cases hd; rw [E]; rfl) h
                    intro b_ w_ _ h
                    clear HLW
                    have HLW := Aside0.mk h
                    clear h
                    simp only [puts]
                    go_wp2
                    go_roundw
                    case rel => exact ⟨j + 1, by have := HJ.out; omega, by go_num, HLW.out⟩
                    case measure => simp [intOf]; have := HJ.out; omega
                  | false =>
                    have HSJ := Aside0.mk hse
                    clear hse
                    go_wp2
                    refine region_det [(103, .map (some gm)), (104, .int .i64 j), (105, .bool false), (106, .bool false), (107, undef), (108, undef), (109, undef), (110, undef), (111, undef), (112, undef), (113, undef), (114, undef), (115, undef), (116, .bool false)] (fun b_ w' => LW w w' [(some gd, cpv R pc, 25), (some gs, spv s, 29), (some gc, cpv R pc, 25)] K gm (seenB s) (.slice A1 l.length c1) (.slice A2 l.length c2) lk ok) (by kernel_rfl) (by kernel_rfl) (by kernel_rfl) (by kernel_rfl) (HLW.out.later (drawn_below0 _)) (fun af E => ⟨?_, ?_, ?_, ?_, ?_, ?_, ?_, ?_, ?_, ?_, ?_, ?_, ?_, ?_, trivial⟩) ?_
                    · exact fun b w' _ _ h => may_move rfl _ (by first | exact .inl rfl | exact .inr rfl) (.map (some gm)) (by rw [E]; rfl) (fun d hd => by cases hd; rw [E]; rfl) h
                    · exact fun b w' _ _ h => may_move rfl _ (by first | exact .inl rfl | exact .inr rfl) (.int .i64 j) (by rw [E]; rfl) (fun d hd => by cases hd; rw [E]; rfl) h
                    · exact fun b w' _ _ h => may_lookup rfl 33 (.tmp 103) (.tmp 104) false rfl (.map (some gm)) (.int .i64 j) (by rw [E]; rfl) (by rw [E]; rfl) (.bool false) (lk_get h.m j HWJ.out HSJ.out) (fun d hd => by cases hd; rw [E]; rfl) h
                    · exact fun b w' _ _ h => may_move rfl _ (by first | exact .inl rfl | exact .inr rfl) (.bool false) (by rw [E]; rfl) (fun d hd => by cases hd; rw [E]; rfl) h
                    · exact fun b w' _ _ h => may_unwanted (wanted_of (want := true) (b := false) rfl rfl rfl (by rw [E]; rfl)) (fun d hd => by cases hd; rw [E]; rfl) h
                    · exact fun b w' _ _ h => may_unwanted (wanted_of (want := true) (b := false) rfl rfl rfl (by rw [E]; rfl)) (fun d hd => by cases hd; rw [E]; rfl) h
                    · exact fun b w' _ _ h => may_unwanted (wanted_of (want := true) (b := false) rfl rfl rfl (by rw [E]; rfl)) (fun d hd => by cases hd; rw [E]; rfl) h
                    · exact fun b w' _ _ h => may_unwanted (wanted_of (want := true) (b := false) rfl rfl rfl (by rw [E]; rfl)) (fun d hd => by cases hd; rw [E]; rfl) h
                    · exact fun b w' _ _ h => may_unwanted (wanted_of (want := true) (b := false) rfl rfl rfl (by rw [E]; rfl)) (fun d hd => by cases hd; rw [E]; rfl) h
                    · exact fun b w' _ _ h => may_unwanted (wanted_of (want := true) (b := false) rfl rfl rfl (by rw [E]; rfl)) (fun d hd => by cases hd; rw [E]; rfl) h
                    · exact fun b w' _ _ h => may_unwanted (wanted_of (want := true) (b := false) rfl rfl rfl (by rw [E]; rfl)) (fun d hd => by cases hd; rw [E]; rfl) h
                    · exact fun b w' _ _ h => may_unwanted (wanted_of (want := true) (b := false) rfl rfl rfl (by rw [E]; rfl)) (fun d hd => by cases hd; rw [E]; rfl) h
                    · exact fun b w' _ _ h => may_unwanted (wanted_of (want := true) (b := false) rfl rfl rfl (by rw [E]; rfl)) (fun d hd => by cases hd; rw [E]; rfl) h
                    · exact fun b w' _ _ h => may_pick rfl (.tmp 106) (.tmp 115) (.const (.bool false)) rfl false (by rw [E]; rfl) (.bool false) (by first | rfl | (rw [E]; rfl)) (fun d hd => by cases hd; rw [E]; rfl) h
                    intro b_ w_ _ h
                    clear HLW
                    have HLW := Aside0.mk h
                    clear h
                    simp only [puts]
                    go_wp2
                    go_roundw
                    case rel => exact ⟨j + 1, by have := HJ.out; omega, by go_num, HLW.out⟩
                    case measure => simp [intOf]; have := HJ.out; omega
                · obtain rfl : j = l.length := by omega
                  clear hj hlt
                  go_wp2_with (first | ((with_reducible refine gate_callee (f := 6) rfl ?_); refine goesL_ (some 118) rfl rfl Tryd.func6 (by kernel_rfl) rfl #[] rfl (by (try simp only [List.map_toArray, List.map_cons, List.map_nil]); first | done | rfl) ?_; refine (speaks_calls _ (laid_at HLD.out HLW.out.k.st.below).out).mono ?_; rintro e w_ ⟨rfl, hb_⟩; refine ⟨_, rfl, ?_⟩; have hs_ := HLW.out.later hb_; clear HLW; have HLW := Aside0.mk hs_; clear hs_ hb_))
                  go_ret
                  exact ⟨rfl, HLW.out.k.st.below⟩
end Go.Proofs.YtiklcpacbclpnaaDoor.P
end
section
set_option linter.unusedVariables false
set_option linter.unusedSimpArgs false
namespace Go.Proofs.YtiklcpacbclpnaaDoor.P
open Go.RowKit Go.Proofs.YtiklcpacbclpnaaDoorW.PrintWords Go.Proofs.YtiklcpacbclpnaaDoorW.PrintLast Go.Proofs.YtiklcpacbclpnaaDoorW.PrintMore
attribute [local go_sem] isSome_setCell_eq
set_option maxHeartbeats 8000000 in
set_option maxRecDepth 100000 in
theorem unseen_wild (R : List Int) (pc : Int) (s : List Pg) (A : Option Addr) (c : Nat) (l : List ByteArray) (fl n : Int) (w : World) (hR : Rok R) (hp : 0 ≤ pc ∧ pc < 4294967296) (hs : s.length = 16) (hfr : ∀ p ∈ s, (Lit.int .i64 p.fr).wf = true) (hr : Kd.C Kd.string w A l.length l) (hc : l.length ≤ c) (hL : Laid w) (hn0 : 0 ≤ n) (hn1 : n < 256) (kw : Nat) (hwd : hibernacletop_wild.f kw l = some true) :
    Calls Tryd.prog 4 #[.agg (cpv R pc), .agg (spv s), .slice A l.length c, .int .u8 fl, .int .u8 n] w fun e w' => e = .returned (.bool true) ∧ Below w.heap.size w w' := by
  have HS := Aside0.mk (St.start w)
  have HR := Aside0.mk hr
  have HC := Aside0.mk hc
  have HLD := Aside0.mk hL
  have HWD := Aside0.mk hwd
  clear hr hc hR hp hL hfr hwd
  go_enter Tryd.func4, Tryd.ntmps4
  go_wp2_with (first | ((with_reducible refine gate_dst (N := 5) rfl ?_); refine xl_box HS.out rfl 5 rfl (cpv R pc) 25 ?hr ?_; (case hr => first | (go_simp; done) | (go_simp; rfl)); intro gc w_ hs_; clear HS; have HS := Aside0.mk hs_; clear hs_) | ((with_reducible refine gate_dst (N := 6) rfl ?_); refine xl_box HS.out rfl 6 rfl (spv s) 29 ?hr ?_; (case hr => first | (go_simp; done) | (go_simp; rfl)); intro gs w_ hs_; clear HS; have HS := Aside0.mk hs_; clear hs_) | ((with_reducible refine gate_callee (f := 5) rfl ?_); refine goesL_ (some 25) rfl rfl Tryd.func5 (by kernel_rfl) rfl #[.slice A l.length c] rfl (by (try simp only [List.map_toArray, List.map_cons, List.map_nil]); first | done | rfl) ?_; refine (hibernacletop_wild.calls kw A c l true _ (Kd.C_below HR.out HS.out.below) HC.out HWD.out).mono ?_; rintro e w_ ⟨rfl, hb_⟩; refine ⟨_, rfl, ?_⟩; have hs_ := HS.out.later (drawn_below hb_); clear HS; have HS := Aside0.mk hs_; clear hs_ hb_) | ((with_reducible refine gate_callee (f := 6) rfl ?_); refine goesL_ (some 26) rfl rfl Tryd.func6 (by kernel_rfl) rfl #[] rfl (by (try simp only [List.map_toArray, List.map_cons, List.map_nil]); first | done | rfl) ?_; refine (speaks_calls _ (laid_at HLD.out HS.out.below).out).mono ?_; rintro e w_ ⟨rfl, hb_⟩; refine ⟨_, rfl, ?_⟩; have hs_ := HS.out.later hb_; clear HS; have HS := Aside0.mk hs_; clear hs_ hb_))
  go_ret
  exact ⟨rfl, HS.out.below⟩
theorem unseen_calls (R : List Int) (pc : Int) (s : List Pg) (A : Option Addr) (c : Nat) (l : List ByteArray) (fl n : Int) (w : World) (hR : Rok R) (hp : 0 ≤ pc ∧ pc < 4294967296) (hs : s.length = 16) (hfr : ∀ p ∈ s, (Lit.int .i64 p.fr).wf = true) (hr : Kd.C Kd.string w A l.length l) (hc : l.length ≤ c) (hL : Laid w) (hn0 : 0 ≤ n) (hn1 : n < 256) (hl : l.length ≤ 9223372036854775807) :
    Calls Tryd.prog 4 #[.agg (cpv R pc), .agg (spv s), .slice A l.length c, .int .u8 fl, .int .u8 n] w fun e w' => e = .returned (.bool true) ∧ Below w.heap.size w w' := by
  obtain ⟨kw, b, hw, hb⟩ := wild_ex l hl
  cases b with
  | true => exact unseen_wild R pc s A c l fl n w hR hp hs hfr hr hc hL hn0 hn1 kw hw
  | false => exact unseen_main R pc s A c l fl n w hR hp hs hfr hr hc hL hn0 hn1 kw hw (hb rfl)
end Go.Proofs.YtiklcpacbclpnaaDoor.P
end
