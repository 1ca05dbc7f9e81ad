-- Printed for this claim and put together by wip/tools/prune.py.
import Derived.Test.YtiklcpacbclpnaaDoorCUns1
import Derived.Test.YtiklcpacbclpnaaDoorCUns2
import Derived.Test.YtiklcpacbclpnaaDoorCUns3
import Derived.Test.YtiklcpacbclpnaaDoorCUns4
import Derived.Test.YtiklcpacbclpnaaDoorCUns5
import Derived.Test.YtiklcpacbclpnaaDoorCUns6
set_option linter.unusedVariables false
set_option linter.unusedSimpArgs false
section
set_option linter.unusedVariables false
set_option linter.unusedSimpArgs false
namespace Go.Proofs.YtiklcpacbclpnaaDoor.P
open Go.RowKit Go.Proofs.YtiklcpacbclpnaaDoorW.PrintWords Go.Proofs.YtiklcpacbclpnaaDoorW.PrintLast Go.Proofs.YtiklcpacbclpnaaDoorW.PrintMore
attribute [local go_sem] isSome_setCell_eq
set_option maxHeartbeats 8000000 in
set_option maxRecDepth 100000 in
theorem step_sb_yes (G : ByteArray → Int) (hG : ∀ b : ByteArray, b.size ≤ 8 → ∃ k, num_Get.f k b = some (G b)) (R : List Int) (pc : Int) (A : Option Addr) (c : Nat) (l : List ByteArray) (s : List Pg) (w : World) (hR : R.length = 16) (hpc : 0 ≤ pc) (hr : Kd.C Kd.string w A l.length l) (hc : l.length ≤ c) (hs : s.length = 16) (hl : l.length ≤ 100000) (r40 : Int) (hf : loadT G l s pc 4 = (r40, true)) (kd : Nat) (op oA oB oC im : Int) (hd : isa_Dec.f kd r40 = some (op, oA, oB, oC, im, true)) (hA : 0 ≤ oA ∧ oA < 16) (hB : 0 ≤ oB ∧ oB < 16) (P1 iw at1 ra rb : Int) (hP : IntKind.u32.wrap (pc + 4) = P1) (hI : IntKind.u32.wrap im = iw) (hT : IntKind.u32.wrap (rb + iw) = at1) (hra : (R.set 0 0).getD oA.toNat 0 = ra) (hrb : (R.set 0 0).getD oB.toNat 0 = rb) (at0 : 0 ≤ at1) (v0 : 0 ≤ ra) (v1 : ra < 4294967296) (hg : canStore l s at1 1 = true) (c13 : decide (op ≤ 13) = false) (c18 : decide (op ≤ 18) = false) (c19 : (op == 19) = false) (c22 : decide (op ≤ 22) = false) (c24 : decide (op ≤ 24) = true) (d24 : (op == 24) = true) :
    Calls Tryd.prog 7 #[.agg (cpv R pc), .agg (spv s), .slice A l.length c] w (StepEnds w (R.set 0 0) P1 l (stored l s at1 1 ra) 0 0) := by
  have HS := Aside0.mk (St.start w)
  have HR := Aside0.mk hr
  have HC := Aside0.mk hc
  have HL := Aside0.mk hl
  have HD := Aside0.mk hd
  have L4 := Aside0.mk (fun (w : World) (hr : Kd.C Kd.string w A l.length l) => load_calls G hG A c l s pc 4 w hr hc hs hpc (Or.inr rfl))
  rw [hf] at L4
  dsimp only at L4
  clear hr hc hl hd hf
  have hu25 := Tryd.underlying25
  have hR1 : (R.set 0 0).length = 16 := by simp [hR]
  have HP := Aside0.mk hP
  have HI := Aside0.mk hI
  have HT := Aside0.mk hT
  have HA : Aside0 ((cpv (R.set 0 0) P1)[oA.toNat]? = some (.int .u32 ra)) := ⟨by rw [cpv_at P1 hR1 (by omega), hra]⟩
  have HBr : Aside0 ((cpv (R.set 0 0) P1)[oB.toNat]? = some (.int .u32 rb)) := ⟨by rw [cpv_at P1 hR1 (by omega), hrb]⟩
  have HRA := Aside0.mk hra
  have HRB := Aside0.mk hrb
  clear hP hI hT hra hrb
  have SY := Aside0.mk (fun (w : World) (hr : Kd.C Kd.string w A l.length l) => store_yes A c l s at1 1 ra w hr HC.out HL.out hs at0 v0 v1 (Or.inl rfl) hg)
  clear hg
  have hR2 : (R.set 0 0).length = 16 := by simp [hR]
  go_enter Tryd.func7, Tryd.ntmps7
  go_wp2_with (first | ((with_reducible refine gate_dst (N := 3) rfl ?_); refine xl_box HS.out rfl 3 rfl (cpv R pc) 25 ?hr ?_; (case hr => first | (go_simp; done) | (go_simp; rfl)); intro gc w_ hs_; clear HS; have HS := Aside0.mk hs_; clear hs_) | ((with_reducible refine gate_dst (N := 4) rfl ?_); refine xl_box HS.out rfl 4 rfl (spv s) 29 ?hr ?_; (case hr => first | (go_simp; done) | (go_simp; rfl)); intro gs w_ hs_; clear HS; have HS := Aside0.mk hs_; clear hs_) | ((with_reducible refine gate_dst (N := 6) rfl ?_); refine xl_box HS.out rfl 6 rfl (Array.replicate 17 (.int .u32 0)) 25 ?hr ?_; (case hr => first | (go_simp; done) | (go_simp; rfl)); intro gr w_ hs_; clear HS; have HS := Aside0.mk hs_; clear hs_) | ((with_reducible refine gate_dst (N := 8) rfl ?_); refine xl_box HS.out rfl 8 rfl #[.int .i64 0, .int .u32 0] 35 ?hr ?_; (case hr => first | (go_simp; done) | (go_simp; rfl)); intro ge w_ hs_; clear HS; have HS := Aside0.mk hs_; clear hs_) | ((with_reducible refine gate_dst (N := 27) rfl ?_); refine Kd.R_append_row Value.string ByteArray.empty (h1 := fun _ => rfl) (w0 := w) w.heap.size rfl (.const (.slice none 0 0)) (.tmp 26) 30 9 (.string ByteArray.empty) 16 rfl Tryd.underlying30 (by kernel_rfl) rfl (by decide) (.slice none 0 0) [] l A l.length c (fun _ => True) rfl rfl (fun _ _ => trivial) (Kd.R_nil Kd.string 9 _ w.heap.size _) (Kd.C_below HR.out HS.out.below) HS.out.below HS.out.low (by have := HL.out; simp only [List.length_nil]; omega) ?_; intro v5 w5 ho hb hgr hfr; obtain ⟨c5, hs5, hk5⟩ := same_add HS.out ho hgr hfr; clear HS; have HS := Aside0.mk hs5; have HO := Aside0.mk hk5; clear hs5 hk5 ho hb hgr hfr) | ((with_reducible refine gate_dst (N := 30) rfl ?_); refine xl_loadRow HS.out 3 gs (spv s) 29 rfl rfl 29 (.tmp 4) rfl rfl (by kernel_rfl) (space_info hs) ?_) | ((with_reducible refine gate_dst (N := 32) rfl ?_); refine xl_load HS.out 4 gc (cpv R pc) 25 rfl rfl 22 (.tmp 31) rfl 16 rfl (by kernel_rfl) (.int .u32 pc) (cpv_pc pc hR) ?_) | ((with_reducible refine gate_callee (f := 13) rfl ?_); refine goesL_ (some 33) rfl rfl Tryd.func13 (by kernel_rfl) rfl #[.slice A l.length c, .agg (spv s), .int .u32 pc, .int .i64 4] rfl (by (try simp only [List.map_toArray, List.map_cons, List.map_nil]); first | done | rfl) ?_; refine (L4.out _ (Kd.C_below HR.out HS.out.below)).mono ?_; rintro e w_ ⟨rfl, hb_⟩; refine ⟨_, rfl, ?_⟩; have hs_ := HS.out.later hb_; clear HS; have HS := Aside0.mk hs_; clear hs_; clear hb_) | ((with_reducible refine gate_callee (f := 14) rfl ?_); refine goesL_ (some 45) rfl rfl Tryd.func14 (by kernel_rfl) rfl #[.int .u32 r40] rfl (by (try simp only [List.map_toArray, List.map_cons, List.map_nil]); first | done | rfl) ?_; refine (isa_Dec.calls kd r40 op oA oB oC im true _ HD.out).mono ?_; rintro e w_ ⟨rfl, hb_⟩; refine ⟨_, rfl, ?_⟩; have hs_ := HS.out.later hb_; clear HS; have HS := Aside0.mk hs_; clear hs_; clear hb_) | ((with_reducible refine gate_dst (N := 12) rfl ?_); refine xl_box HS.out rfl 12 rfl #[.int .u8 0, .int .u8 0, .int .u8 0, .int .u8 0, .int .i32 0] 48 ?hr ?_; (case hr => first | (go_simp; done) | (go_simp; rfl)); intro gi w_ hs_; clear HS; have HS := Aside0.mk hs_; clear hs_) | ((with_reducible refine gate_store (t := 48) (p := 12) rfl ?_); refine xl_storeRow HS.out 0 gi #[.int .u8 0, .int .u8 0, .int .u8 0, .int .u8 0, .int .i32 0] 48 rfl rfl rfl 48 (.tmp 12) (.tmp 46) rfl rfl #[.int .u8 op, .int .u8 oA, .int .u8 oB, .int .u8 oC, .int .i32 im] rfl (by kernel_rfl) rfl (by simp [Value.oneCell']) ?_; intro w_ hs_; clear HS; have HS := Aside0.mk hs_; clear hs_) | ((with_reducible refine gate_dst (N := 54) rfl ?_); refine xl_loadRow HS.out 5 gc (cpv R pc) 25 rfl rfl 25 (.tmp 3) rfl rfl (by kernel_rfl) (cpu_info pc hR) ?_) | ((with_reducible refine gate_dst (N := 13) rfl ?_); refine xl_box HS.out rfl 13 rfl (Array.replicate 17 (.int .u32 0)) 25 ?hr ?_; (case hr => first | (go_simp; done) | (go_simp; rfl)); intro gn w_ hs_; clear HS; have HS := Aside0.mk hs_; clear hs_) | ((with_reducible refine gate_store (t := 25) (p := 13) rfl ?_); refine xl_storeRow HS.out 0 gn (Array.replicate 17 (.int .u32 0)) 25 rfl rfl rfl 25 (.tmp 13) (.tmp 54) rfl rfl (cpv R pc) rfl (cpu_info pc hR) (by simp [cpv_size pc hR]) (cpv_one R pc) ?_; intro w_ hs_; clear HS; have HS := Aside0.mk hs_; clear hs_) | ((with_reducible refine gate_dst (N := 56) rfl ?_); refine xl_index rfl 23 (.tmp 55) (.const (.int .i64 0)) rfl (.pointer (some ⟨gn, 0, none⟩)) (.int .i64 0) rfl rfl (.pointer (some ⟨gn, 0, none⟩)) (fun w => idx23 gn .i64 0 (by decide) (by decide) w) ?_) | ((with_reducible refine gate_store (t := 22) (p := 56) rfl ?_); refine xl_store HS.out 0 gn (cpv R pc) 25 rfl rfl rfl 22 (.tmp 56) (.const (.int .u32 0)) rfl 0 rfl (.int .u32 0) rfl (by kernel_rfl) rfl (by simp [cpv_size pc hR]) ?_; intro w_ hs_; rw [cpv_set pc hR (by decide)] at hs_; clear HS; have HS := Aside0.mk hs_; clear hs_) | ((with_reducible refine gate_dst (N := 58) rfl ?_); refine xl_load HS.out 0 gn (cpv (R.set 0 0) pc) 25 rfl rfl 22 (.tmp 57) rfl 16 rfl (by kernel_rfl) (.int .u32 pc) (cpv_pc pc hR1) ?_) | ((with_reducible refine gate_dst (N := 59) rfl ?_); refine xl_bin rfl .add 22 22 (.tmp 58) (.const (.int .u32 4)) rfl (.int .u32 pc) (.int .u32 4) rfl rfl (.int .u32 P1) rfl (fun w => run_add 22 .u32 pc 4 P1 HP.out w) ?_) | ((with_reducible refine gate_store (t := 22) (p := 60) rfl ?_); refine xl_store HS.out 0 gn (cpv (R.set 0 0) pc) 25 rfl rfl rfl 22 (.tmp 60) (.tmp 59) rfl 16 rfl (.int .u32 P1) rfl (by kernel_rfl) rfl (by simp [cpv_size pc hR1]) ?_; intro w_ hs_; rw [cpv_set16 pc hR1] at hs_; clear HS; have HS := Aside0.mk hs_; clear hs_) | ((with_reducible refine gate_dst (N := 61) rfl ?_); refine xl_loadRow HS.out 0 gn (cpv (R.set 0 0) P1) 25 rfl rfl 25 (.tmp 13) rfl rfl (by kernel_rfl) (cpu_info P1 hR1) ?_) | ((with_reducible refine gate_dst (N := 14) rfl ?_); refine xl_box HS.out rfl 14 rfl (Array.replicate 17 (.int .u32 0)) 25 ?hr ?_; (case hr => first | (go_simp; done) | (go_simp; rfl)); intro gw w_ hs_; clear HS; have HS := Aside0.mk hs_; clear hs_) | ((with_reducible refine gate_store (t := 25) (p := 14) rfl ?_); refine xl_storeRow HS.out 0 gw (Array.replicate 17 (.int .u32 0)) 25 rfl rfl rfl 25 (.tmp 14) (.tmp 61) rfl rfl (cpv (R.set 0 0) P1) rfl (cpu_info P1 hR1) (by simp [cpv_size P1 hR1]) (cpv_one (R.set 0 0) P1) ?_; intro w_ hs_; clear HS; have HS := Aside0.mk hs_; clear hs_))
  refine region_det [(62, (.pointer (some ⟨gi, 1, none⟩))), (63, .int .u8 oA), (64, (.pointer (some ⟨gw, 0, none⟩))), (65, (.pointer (some ⟨gw, oA.toNat, none⟩))), (66, .int .u32 ra), (67, (.pointer (some ⟨gi, 2, none⟩))), (68, .int .u8 oB), (69, (.pointer (some ⟨gw, 0, none⟩))), (70, (.pointer (some ⟨gw, oB.toNat, none⟩))), (71, .int .u32 rb), (72, (.pointer (some ⟨gi, 4, none⟩))), (73, .int .i32 im), (74, .int .u32 iw), (15, .int .u32 ra), (16, .int .u32 rb), (17, .int .u32 iw)] (fun b w' => St w.heap.size w w' [(some gw, cpv (R.set 0 0) P1, 25), (some gn, cpv (R.set 0 0) P1, 25), (some gi, #[.int .u8 op, .int .u8 oA, .int .u8 oB, .int .u8 oC, .int .i32 im], 48), (v5.ownBlock, c5, 9), (some ge, #[.int .i64 0, .int .u32 0], 35), (some gr, (Array.replicate 17 (.int .u32 0)), 25), (some gs, spv s, 29), (some gc, cpv R pc, 25)]) (by kernel_rfl) (by kernel_rfl) (by kernel_rfl) (by kernel_rfl) HS.out.drew (fun af E => ⟨?_, ?_, ?_, ?_, ?_, ?_, ?_, ?_, ?_, ?_, ?_, ?_, ?_, ?_, ?_, ?_, trivial⟩) ?_
  · exact fun b w' _ _ h => may_field rfl 48 (.tmp 12) 1 rfl (.pointer (some ⟨gi, 0, none⟩)) (by rw [E]; rfl) (.pointer (some ⟨gi, 1, none⟩)) (fun w => by first | (go_simp; done) | (go_simp; rfl)) (fun d hd => by cases hd; rw [E]; rfl) h
  · exact fun b w' _ _ h => may_load h 2 gi #[.int .u8 op, .int .u8 oA, .int .u8 oB, .int .u8 oC, .int .i32 im] 48 rfl rfl 5 (.tmp 62) rfl 1 (by rw [E]; rfl) (by kernel_rfl) (.int .u8 oA) rfl (fun d hd => by cases hd; rw [E]; rfl) h
  · exact fun b w' _ _ h => may_field rfl 25 (.tmp 14) 0 rfl (.pointer (some ⟨gw, 0, none⟩)) (by rw [E]; rfl) (.pointer (some ⟨gw, 0, none⟩)) (fun w => by first | (go_simp; done) | (go_simp; rfl)) (fun d hd => by cases hd; rw [E]; rfl) h
  · exact fun b w' _ _ h => may_index rfl 23 (.tmp 64) (.tmp 63) rfl (.pointer (some ⟨gw, 0, none⟩)) (.int .u8 oA) (by rw [E]; rfl) (by rw [E]; rfl) (.pointer (some ⟨gw, oA.toNat, none⟩)) (fun w => idx23 gw .u8 oA hA.1 hA.2 w) (fun d hd => by cases hd; rw [E]; rfl) h
  · exact fun b w' _ _ h => may_load h 0 gw (cpv (R.set 0 0) P1) 25 rfl rfl 22 (.tmp 65) rfl oA.toNat (by rw [E]; rfl) (by kernel_rfl) (.int .u32 ra) HA.out (fun d hd => by cases hd; rw [E]; rfl) h
  · exact fun b w' _ _ h => may_field rfl 48 (.tmp 12) 2 rfl (.pointer (some ⟨gi, 0, none⟩)) (by rw [E]; rfl) (.pointer (some ⟨gi, 2, none⟩)) (fun w => by first | (go_simp; done) | (go_simp; rfl)) (fun d hd => by cases hd; rw [E]; rfl) h
  · exact fun b w' _ _ h => may_load h 2 gi #[.int .u8 op, .int .u8 oA, .int .u8 oB, .int .u8 oC, .int .i32 im] 48 rfl rfl 5 (.tmp 67) rfl 2 (by rw [E]; rfl) (by kernel_rfl) (.int .u8 oB) rfl (fun d hd => by cases hd; rw [E]; rfl) h
  · exact fun b w' _ _ h => may_field rfl 25 (.tmp 14) 0 rfl (.pointer (some ⟨gw, 0, none⟩)) (by rw [E]; rfl) (.pointer (some ⟨gw, 0, none⟩)) (fun w => by first | (go_simp; done) | (go_simp; rfl)) (fun d hd => by cases hd; rw [E]; rfl) h
  · exact fun b w' _ _ h => may_index rfl 23 (.tmp 69) (.tmp 68) rfl (.pointer (some ⟨gw, 0, none⟩)) (.int .u8 oB) (by rw [E]; rfl) (by rw [E]; rfl) (.pointer (some ⟨gw, oB.toNat, none⟩)) (fun w => idx23 gw .u8 oB hB.1 hB.2 w) (fun d hd => by cases hd; rw [E]; rfl) h
  · exact fun b w' _ _ h => may_load h 0 gw (cpv (R.set 0 0) P1) 25 rfl rfl 22 (.tmp 70) rfl oB.toNat (by rw [E]; rfl) (by kernel_rfl) (.int .u32 rb) HBr.out (fun d hd => by cases hd; rw [E]; rfl) h
  · exact fun b w' _ _ h => may_field rfl 48 (.tmp 12) 4 rfl (.pointer (some ⟨gi, 0, none⟩)) (by rw [E]; rfl) (.pointer (some ⟨gi, 4, none⟩)) (fun w => by first | (go_simp; done) | (go_simp; rfl)) (fun d hd => by cases hd; rw [E]; rfl) h
  · exact fun b w' _ _ h => may_load h 2 gi #[.int .u8 op, .int .u8 oA, .int .u8 oB, .int .u8 oC, .int .i32 im] 48 rfl rfl 21 (.tmp 72) rfl 4 (by rw [E]; rfl) (by kernel_rfl) (.int .i32 im) rfl (fun d hd => by cases hd; rw [E]; rfl) h
  · exact fun b w' _ _ h => may_convert rfl 21 22 (.tmp 73) rfl (.int .i32 im) (by rw [E]; rfl) (.int .u32 iw) (fun w => conv2122 im iw HI.out w) (fun d hd => by cases hd; rw [E]; rfl) h
  · exact fun b w' _ _ h => may_move rfl _ (by first | exact .inl rfl | exact .inr rfl) (.int .u32 ra) (by rw [E]; rfl) (fun d hd => by cases hd; rw [E]; rfl) h
  · exact fun b w' _ _ h => may_move rfl _ (by first | exact .inl rfl | exact .inr rfl) (.int .u32 rb) (by rw [E]; rfl) (fun d hd => by cases hd; rw [E]; rfl) h
  · exact fun b w' _ _ h => may_move rfl _ (by first | exact .inl rfl | exact .inr rfl) (.int .u32 iw) (by rw [E]; rfl) (fun d hd => by cases hd; rw [E]; rfl) h
  intro b w_ hall h
  clear HS
  have HS := Aside0.mk h
  clear h hall
  simp only [puts]
  go_wp2_with (first | ((with_reducible refine gate_dst (N := 77) rfl ?_); refine xl_bin rfl .add 22 22 (.tmp 75) (.tmp 76) rfl (.int .u32 rb) (.int .u32 iw) rfl rfl (.int .u32 at1) rfl (fun w => run_add 22 .u32 rb iw at1 HT.out w) ?_) | ((with_reducible refine gate_dst (N := 19) rfl ?_); refine xl_box HS.out rfl 19 rfl #[.int .i64 0, .int .u32 0] 35 ?hr ?_; (case hr => first | (go_simp; done) | (go_simp; rfl)); intro gv w_ hs_; clear HS; have HS := Aside0.mk hs_; clear hs_) | ((with_reducible refine gate_store (t := 35) (p := 19) rfl ?_); refine xl_storeRow HS.out 0 gv #[.int .i64 0, .int .u32 0] 35 rfl rfl rfl 35 (.tmp 19) (.tmp 78) rfl rfl #[.int .i64 0, .int .u32 0] rfl (by kernel_rfl) rfl (by simp [Value.oneCell']) ?_; intro w_ hs_; clear HS; have HS := Aside0.mk hs_; clear hs_) | ((with_reducible refine gate_dst (N := 80) rfl ?_); refine xl_load HS.out 3 gi #[.int .u8 op, .int .u8 oA, .int .u8 oB, .int .u8 oC, .int .i32 im] 48 rfl rfl 5 (.tmp 79) rfl 0 rfl (by kernel_rfl) (.int .u8 op) rfl ?_) | ((with_reducible refine gate_dst (N := 150) rfl ?_); refine xl_loadRow HS.out 7 gs (spv s) 29 rfl rfl 29 (.tmp 4) rfl rfl (by kernel_rfl) (space_info hs) ?_) | ((with_reducible refine gate_callee (f := 18) rfl ?_); refine goesL_ (some 154) rfl rfl Tryd.func18 (by kernel_rfl) rfl #[.slice A l.length c, .agg (spv s), .int .u32 at1, .int .i64 1, .int .u32 ra] rfl (by (try simp only [List.map_toArray, List.map_cons, List.map_nil]); first | done | rfl) ?_; refine (SY.out _ (Kd.C_below HR.out HS.out.below)).mono ?_; rintro e w_ ⟨u, rfl, hu_, hb_⟩; refine ⟨_, rfl, ?_⟩; obtain ⟨c5, hs_, ho_⟩ := store_add HS.out hu_ hb_; clear HS HO; have HS := Aside0.mk hs_; have HO := Aside0.mk ho_; clear hs_ ho_ hu_ hb_) | ((with_reducible refine gate_dst (N := 204) rfl ?_); refine xl_index rfl 23 (.tmp 203) (.const (.int .i64 0)) rfl (.pointer (some ⟨gn, 0, none⟩)) (.int .i64 0) rfl rfl (.pointer (some ⟨gn, 0, none⟩)) (fun w => idx23 gn .i64 0 (by decide) (by decide) w) ?_) | ((with_reducible refine gate_store (t := 22) (p := 204) rfl ?_); refine xl_store HS.out 2 gn (cpv (R.set 0 0) P1) 25 rfl rfl rfl 22 (.tmp 204) (.const (.int .u32 0)) rfl 0 rfl (.int .u32 0) rfl (by kernel_rfl) rfl (by simp [cpv_size P1 hR2]) ?_; intro w_ hs_; rw [cpv_set P1 hR2 (by decide), set00] at hs_; clear HS; have HS := Aside0.mk hs_; clear hs_))
  refine region_det [(205, .agg (cpv (R.set 0 0) P1)), (206, u), (207, .agg #[.int .i64 0, .int .u32 0]), (7, u)] (fun b w' => St w.heap.size w w' [(some gv, #[.int .i64 0, .int .u32 0], 35), (some gw, cpv (R.set 0 0) P1, 25), (some gn, cpv (R.set 0 0) P1, 25), (some gi, #[.int .u8 op, .int .u8 oA, .int .u8 oB, .int .u8 oC, .int .i32 im], 48), (u.ownBlock, c5, 9), (some ge, bif b 5 then #[.int .i64 0, .int .u32 0] else #[.int .i64 0, .int .u32 0], 35), (some gr, bif b 3 then cpv (R.set 0 0) P1 else (Array.replicate 17 (.int .u32 0)), 25), (some gs, spv s, 29), (some gc, cpv R pc, 25)]) (by kernel_rfl) (by kernel_rfl) (by kernel_rfl) (by kernel_rfl) HS.out.drew (fun af E => ⟨?_, ?_, ?_, ?_, ?_, ?_, trivial⟩) ?_
  · exact fun b w' _ _ h => may_loadRow h 2 gn (cpv (R.set 0 0) P1) 25 rfl rfl 25 (.tmp 13) rfl (by rw [E]; rfl) (by kernel_rfl) (cpu_info P1 (show (R.set 0 0).length = 16 by simp [hR2])) (fun d hd => by cases hd; rw [E]; rfl) h
  · exact fun b w' _ _ h => may_move rfl _ (by first | exact .inl rfl | exact .inr rfl) u (by rw [E]; rfl) (fun d hd => by cases hd; rw [E]; rfl) h
  · exact fun b w' _ _ h => may_loadRow h 0 gv #[.int .i64 0, .int .u32 0] 35 rfl rfl 35 (.tmp 19) rfl (by rw [E]; rfl) (by kernel_rfl) (by kernel_rfl) (fun d hd => by cases hd; rw [E]; rfl) h
  · exact fun b w' _ _ h => may_storeRow h 6 gr _ 25 rfl rfl rfl 25 (.tmp 6) (.tmp 205) rfl (by rw [E]; rfl) (cpv (R.set 0 0) P1) (by rw [E]; rfl) (cpu_info P1 (show (R.set 0 0).length = 16 by simp [hR2])) (by cases b 3 <;> simp [cpv_size P1 (show (R.set 0 0).length = 16 by simp [hR2])]) (cpv_one (R.set 0 0) P1) (fun _ h => h)
  · exact fun b w' _ _ h => may_move rfl _ (by first | exact .inl rfl | exact .inr rfl) u (by rw [E]; rfl) (fun d hd => by cases hd; rw [E]; rfl) h
  · exact fun b w' _ _ h => may_storeRow h 5 ge _ 35 rfl rfl rfl 35 (.tmp 8) (.tmp 207) rfl (by rw [E]; rfl) #[.int .i64 0, .int .u32 0] (by rw [E]; rfl) (by kernel_rfl) (by cases b 5 <;> rfl) (by simp [Value.oneCell']) (fun _ h => h)
  intro b w_ hall h
  rw [hall 3 (by decide)] at h
  rw [hall 5 (by decide)] at h
  simp only [cond_true] at h
  clear HS
  have HS := Aside0.mk h
  clear h hall
  simp only [puts]
  go_wp2
  refine bodyPost_ret (v := .tuple #[.agg (cpv (R.set 0 0) P1), u, .agg #[.int .i64 0, .int .u32 0]]) (results_list (rs := [.cell 6 25, .tmp 7, .cell 8 35]) (vs := [.agg (cpv (R.set 0 0) P1), u, .agg #[.int .i64 0, .int .u32 0]]) rfl (by simp) (.cell gr 25 (cpv (R.set 0 0) P1) (0, 0) _ rfl (HS.out.blk (n := 6) rfl) Tryd.underlying25 rfl (cpu_info P1 (show (R.set 0 0).length = 16 by simp [hR2])) (.tmp (.cell ge 35 _ (0, 0) _ rfl (HS.out.blk (n := 5) rfl) Tryd.underlying35 rfl (by kernel_rfl) .nil)))) rfl ?_
  exact ⟨u, rfl, HO.out _ (fun g hg => (HS.out.own _ (List.mem_of_getElem? (i := 4) rfl) g hg).2), HS.out.below⟩
set_option maxHeartbeats 8000000 in
set_option maxRecDepth 100000 in
theorem step_sb_no (G : ByteArray → Int) (hG : ∀ b : ByteArray, b.size ≤ 8 → ∃ k, num_Get.f k b = some (G b)) (R : List Int) (pc : Int) (A : Option Addr) (c : Nat) (l : List ByteArray) (s : List Pg) (w : World) (hR : R.length = 16) (hpc : 0 ≤ pc) (hr : Kd.C Kd.string w A l.length l) (hc : l.length ≤ c) (hs : s.length = 16) (hl : l.length ≤ 100000) (r40 : Int) (hf : loadT G l s pc 4 = (r40, true)) (kd : Nat) (op oA oB oC im : Int) (hd : isa_Dec.f kd r40 = some (op, oA, oB, oC, im, true)) (hA : 0 ≤ oA ∧ oA < 16) (hB : 0 ≤ oB ∧ oB < 16) (P1 iw at1 ra rb : Int) (hP : IntKind.u32.wrap (pc + 4) = P1) (hI : IntKind.u32.wrap im = iw) (hT : IntKind.u32.wrap (rb + iw) = at1) (hra : (R.set 0 0).getD oA.toNat 0 = ra) (hrb : (R.set 0 0).getD oB.toNat 0 = rb) (at0 : 0 ≤ at1) (v0 : 0 ≤ ra) (v1 : ra < 4294967296) (hg : canStore l s at1 1 = false) (c13 : decide (op ≤ 13) = false) (c18 : decide (op ≤ 18) = false) (c19 : (op == 19) = false) (c22 : decide (op ≤ 22) = false) (c24 : decide (op ≤ 24) = true) (d24 : (op == 24) = true) :
    Calls Tryd.prog 7 #[.agg (cpv R pc), .agg (spv s), .slice A l.length c] w (StepEnds w R pc l l 2 at1) := by
  have HS := Aside0.mk (St.start w)
  have HR := Aside0.mk hr
  have HC := Aside0.mk hc
  have HL := Aside0.mk hl
  have HD := Aside0.mk hd
  have L4 := Aside0.mk (fun (w : World) (hr : Kd.C Kd.string w A l.length l) => load_calls G hG A c l s pc 4 w hr hc hs hpc (Or.inr rfl))
  rw [hf] at L4
  dsimp only at L4
  clear hr hc hl hd hf
  have hu25 := Tryd.underlying25
  have hR1 : (R.set 0 0).length = 16 := by simp [hR]
  have HP := Aside0.mk hP
  have HI := Aside0.mk hI
  have HT := Aside0.mk hT
  have HA : Aside0 ((cpv (R.set 0 0) P1)[oA.toNat]? = some (.int .u32 ra)) := ⟨by rw [cpv_at P1 hR1 (by omega), hra]⟩
  have HBr : Aside0 ((cpv (R.set 0 0) P1)[oB.toNat]? = some (.int .u32 rb)) := ⟨by rw [cpv_at P1 hR1 (by omega), hrb]⟩
  have HRA := Aside0.mk hra
  have HRB := Aside0.mk hrb
  clear hP hI hT hra hrb
  have SN := Aside0.mk (fun (w : World) (hr : Kd.C Kd.string w A l.length l) => store_no A c l s at1 1 ra w hr HC.out hs at0 (Or.inl rfl) hg)
  clear hg
  go_enter Tryd.func7, Tryd.ntmps7
  go_wp2_with (first | ((with_reducible refine gate_dst (N := 3) rfl ?_); refine xl_box HS.out rfl 3 rfl (cpv R pc) 25 ?hr ?_; (case hr => first | (go_simp; done) | (go_simp; rfl)); intro gc w_ hs_; clear HS; have HS := Aside0.mk hs_; clear hs_) | ((with_reducible refine gate_dst (N := 4) rfl ?_); refine xl_box HS.out rfl 4 rfl (spv s) 29 ?hr ?_; (case hr => first | (go_simp; done) | (go_simp; rfl)); intro gs w_ hs_; clear HS; have HS := Aside0.mk hs_; clear hs_) | ((with_reducible refine gate_dst (N := 6) rfl ?_); refine xl_box HS.out rfl 6 rfl (Array.replicate 17 (.int .u32 0)) 25 ?hr ?_; (case hr => first | (go_simp; done) | (go_simp; rfl)); intro gr w_ hs_; clear HS; have HS := Aside0.mk hs_; clear hs_) | ((with_reducible refine gate_dst (N := 8) rfl ?_); refine xl_box HS.out rfl 8 rfl #[.int .i64 0, .int .u32 0] 35 ?hr ?_; (case hr => first | (go_simp; done) | (go_simp; rfl)); intro ge w_ hs_; clear HS; have HS := Aside0.mk hs_; clear hs_) | ((with_reducible refine gate_dst (N := 27) rfl ?_); refine Kd.R_append_row Value.string ByteArray.empty (h1 := fun _ => rfl) (w0 := w) w.heap.size rfl (.const (.slice none 0 0)) (.tmp 26) 30 9 (.string ByteArray.empty) 16 rfl Tryd.underlying30 (by kernel_rfl) rfl (by decide) (.slice none 0 0) [] l A l.length c (fun _ => True) rfl rfl (fun _ _ => trivial) (Kd.R_nil Kd.string 9 _ w.heap.size _) (Kd.C_below HR.out HS.out.below) HS.out.below HS.out.low (by have := HL.out; simp only [List.length_nil]; omega) ?_; intro v5 w5 ho hb hgr hfr; obtain ⟨c5, hs5, hk5⟩ := same_add HS.out ho hgr hfr; clear HS; have HS := Aside0.mk hs5; have HO := Aside0.mk hk5; clear hs5 hk5 ho hb hgr hfr) | ((with_reducible refine gate_dst (N := 30) rfl ?_); refine xl_loadRow HS.out 3 gs (spv s) 29 rfl rfl 29 (.tmp 4) rfl rfl (by kernel_rfl) (space_info hs) ?_) | ((with_reducible refine gate_dst (N := 32) rfl ?_); refine xl_load HS.out 4 gc (cpv R pc) 25 rfl rfl 22 (.tmp 31) rfl 16 rfl (by kernel_rfl) (.int .u32 pc) (cpv_pc pc hR) ?_) | ((with_reducible refine gate_callee (f := 13) rfl ?_); refine goesL_ (some 33) rfl rfl Tryd.func13 (by kernel_rfl) rfl #[.slice A l.length c, .agg (spv s), .int .u32 pc, .int .i64 4] rfl (by (try simp only [List.map_toArray, List.map_cons, List.map_nil]); first | done | rfl) ?_; refine (L4.out _ (Kd.C_below HR.out HS.out.below)).mono ?_; rintro e w_ ⟨rfl, hb_⟩; refine ⟨_, rfl, ?_⟩; have hs_ := HS.out.later hb_; clear HS; have HS := Aside0.mk hs_; clear hs_; clear hb_) | ((with_reducible refine gate_callee (f := 14) rfl ?_); refine goesL_ (some 45) rfl rfl Tryd.func14 (by kernel_rfl) rfl #[.int .u32 r40] rfl (by (try simp only [List.map_toArray, List.map_cons, List.map_nil]); first | done | rfl) ?_; refine (isa_Dec.calls kd r40 op oA oB oC im true _ HD.out).mono ?_; rintro e w_ ⟨rfl, hb_⟩; refine ⟨_, rfl, ?_⟩; have hs_ := HS.out.later hb_; clear HS; have HS := Aside0.mk hs_; clear hs_; clear hb_) | ((with_reducible refine gate_dst (N := 12) rfl ?_); refine xl_box HS.out rfl 12 rfl #[.int .u8 0, .int .u8 0, .int .u8 0, .int .u8 0, .int .i32 0] 48 ?hr ?_; (case hr => first | (go_simp; done) | (go_simp; rfl)); intro gi w_ hs_; clear HS; have HS := Aside0.mk hs_; clear hs_) | ((with_reducible refine gate_store (t := 48) (p := 12) rfl ?_); refine xl_storeRow HS.out 0 gi #[.int .u8 0, .int .u8 0, .int .u8 0, .int .u8 0, .int .i32 0] 48 rfl rfl rfl 48 (.tmp 12) (.tmp 46) rfl rfl #[.int .u8 op, .int .u8 oA, .int .u8 oB, .int .u8 oC, .int .i32 im] rfl (by kernel_rfl) rfl (by simp [Value.oneCell']) ?_; intro w_ hs_; clear HS; have HS := Aside0.mk hs_; clear hs_) | ((with_reducible refine gate_dst (N := 54) rfl ?_); refine xl_loadRow HS.out 5 gc (cpv R pc) 25 rfl rfl 25 (.tmp 3) rfl rfl (by kernel_rfl) (cpu_info pc hR) ?_) | ((with_reducible refine gate_dst (N := 13) rfl ?_); refine xl_box HS.out rfl 13 rfl (Array.replicate 17 (.int .u32 0)) 25 ?hr ?_; (case hr => first | (go_simp; done) | (go_simp; rfl)); intro gn w_ hs_; clear HS; have HS := Aside0.mk hs_; clear hs_) | ((with_reducible refine gate_store (t := 25) (p := 13) rfl ?_); refine xl_storeRow HS.out 0 gn (Array.replicate 17 (.int .u32 0)) 25 rfl rfl rfl 25 (.tmp 13) (.tmp 54) rfl rfl (cpv R pc) rfl (cpu_info pc hR) (by simp [cpv_size pc hR]) (cpv_one R pc) ?_; intro w_ hs_; clear HS; have HS := Aside0.mk hs_; clear hs_) | ((with_reducible refine gate_dst (N := 56) rfl ?_); refine xl_index rfl 23 (.tmp 55) (.const (.int .i64 0)) rfl (.pointer (some ⟨gn, 0, none⟩)) (.int .i64 0) rfl rfl (.pointer (some ⟨gn, 0, none⟩)) (fun w => idx23 gn .i64 0 (by decide) (by decide) w) ?_) | ((with_reducible refine gate_store (t := 22) (p := 56) rfl ?_); refine xl_store HS.out 0 gn (cpv R pc) 25 rfl rfl rfl 22 (.tmp 56) (.const (.int .u32 0)) rfl 0 rfl (.int .u32 0) rfl (by kernel_rfl) rfl (by simp [cpv_size pc hR]) ?_; intro w_ hs_; rw [cpv_set pc hR (by decide)] at hs_; clear HS; have HS := Aside0.mk hs_; clear hs_) | ((with_reducible refine gate_dst (N := 58) rfl ?_); refine xl_load HS.out 0 gn (cpv (R.set 0 0) pc) 25 rfl rfl 22 (.tmp 57) rfl 16 rfl (by kernel_rfl) (.int .u32 pc) (cpv_pc pc hR1) ?_) | ((with_reducible refine gate_dst (N := 59) rfl ?_); refine xl_bin rfl .add 22 22 (.tmp 58) (.const (.int .u32 4)) rfl (.int .u32 pc) (.int .u32 4) rfl rfl (.int .u32 P1) rfl (fun w => run_add 22 .u32 pc 4 P1 HP.out w) ?_) | ((with_reducible refine gate_store (t := 22) (p := 60) rfl ?_); refine xl_store HS.out 0 gn (cpv (R.set 0 0) pc) 25 rfl rfl rfl 22 (.tmp 60) (.tmp 59) rfl 16 rfl (.int .u32 P1) rfl (by kernel_rfl) rfl (by simp [cpv_size pc hR1]) ?_; intro w_ hs_; rw [cpv_set16 pc hR1] at hs_; clear HS; have HS := Aside0.mk hs_; clear hs_) | ((with_reducible refine gate_dst (N := 61) rfl ?_); refine xl_loadRow HS.out 0 gn (cpv (R.set 0 0) P1) 25 rfl rfl 25 (.tmp 13) rfl rfl (by kernel_rfl) (cpu_info P1 hR1) ?_) | ((with_reducible refine gate_dst (N := 14) rfl ?_); refine xl_box HS.out rfl 14 rfl (Array.replicate 17 (.int .u32 0)) 25 ?hr ?_; (case hr => first | (go_simp; done) | (go_simp; rfl)); intro gw w_ hs_; clear HS; have HS := Aside0.mk hs_; clear hs_) | ((with_reducible refine gate_store (t := 25) (p := 14) rfl ?_); refine xl_storeRow HS.out 0 gw (Array.replicate 17 (.int .u32 0)) 25 rfl rfl rfl 25 (.tmp 14) (.tmp 61) rfl rfl (cpv (R.set 0 0) P1) rfl (cpu_info P1 hR1) (by simp [cpv_size P1 hR1]) (cpv_one (R.set 0 0) P1) ?_; intro w_ hs_; clear HS; have HS := Aside0.mk hs_; clear hs_))
  refine region_det [(62, (.pointer (some ⟨gi, 1, none⟩))), (63, .int .u8 oA), (64, (.pointer (some ⟨gw, 0, none⟩))), (65, (.pointer (some ⟨gw, oA.toNat, none⟩))), (66, .int .u32 ra), (67, (.pointer (some ⟨gi, 2, none⟩))), (68, .int .u8 oB), (69, (.pointer (some ⟨gw, 0, none⟩))), (70, (.pointer (some ⟨gw, oB.toNat, none⟩))), (71, .int .u32 rb), (72, (.pointer (some ⟨gi, 4, none⟩))), (73, .int .i32 im), (74, .int .u32 iw), (15, .int .u32 ra), (16, .int .u32 rb), (17, .int .u32 iw)] (fun b w' => St w.heap.size w w' [(some gw, cpv (R.set 0 0) P1, 25), (some gn, cpv (R.set 0 0) P1, 25), (some gi, #[.int .u8 op, .int .u8 oA, .int .u8 oB, .int .u8 oC, .int .i32 im], 48), (v5.ownBlock, c5, 9), (some ge, #[.int .i64 0, .int .u32 0], 35), (some gr, (Array.replicate 17 (.int .u32 0)), 25), (some gs, spv s, 29), (some gc, cpv R pc, 25)]) (by kernel_rfl) (by kernel_rfl) (by kernel_rfl) (by kernel_rfl) HS.out.drew (fun af E => ⟨?_, ?_, ?_, ?_, ?_, ?_, ?_, ?_, ?_, ?_, ?_, ?_, ?_, ?_, ?_, ?_, trivial⟩) ?_
  · exact fun b w' _ _ h => may_field rfl 48 (.tmp 12) 1 rfl (.pointer (some ⟨gi, 0, none⟩)) (by rw [E]; rfl) (.pointer (some ⟨gi, 1, none⟩)) (fun w => by first | (go_simp; done) | (go_simp; rfl)) (fun d hd => by cases hd; rw [E]; rfl) h
  · exact fun b w' _ _ h => may_load h 2 gi #[.int .u8 op, .int .u8 oA, .int .u8 oB, .int .u8 oC, .int .i32 im] 48 rfl rfl 5 (.tmp 62) rfl 1 (by rw [E]; rfl) (by kernel_rfl) (.int .u8 oA) rfl (fun d hd => by cases hd; rw [E]; rfl) h
  · exact fun b w' _ _ h => may_field rfl 25 (.tmp 14) 0 rfl (.pointer (some ⟨gw, 0, none⟩)) (by rw [E]; rfl) (.pointer (some ⟨gw, 0, none⟩)) (fun w => by first | (go_simp; done) | (go_simp; rfl)) (fun d hd => by cases hd; rw [E]; rfl) h
  · exact fun b w' _ _ h => may_index rfl 23 (.tmp 64) (.tmp 63) rfl (.pointer (some ⟨gw, 0, none⟩)) (.int .u8 oA) (by rw [E]; rfl) (by rw [E]; rfl) (.pointer (some ⟨gw, oA.toNat, none⟩)) (fun w => idx23 gw .u8 oA hA.1 hA.2 w) (fun d hd => by cases hd; rw [E]; rfl) h
  · exact fun b w' _ _ h => may_load h 0 gw (cpv (R.set 0 0) P1) 25 rfl rfl 22 (.tmp 65) rfl oA.toNat (by rw [E]; rfl) (by kernel_rfl) (.int .u32 ra) HA.out (fun d hd => by cases hd; rw [E]; rfl) h
  · exact fun b w' _ _ h => may_field rfl 48 (.tmp 12) 2 rfl (.pointer (some ⟨gi, 0, none⟩)) (by rw [E]; rfl) (.pointer (some ⟨gi, 2, none⟩)) (fun w => by first | (go_simp; done) | (go_simp; rfl)) (fun d hd => by cases hd; rw [E]; rfl) h
  · exact fun b w' _ _ h => may_load h 2 gi #[.int .u8 op, .int .u8 oA, .int .u8 oB, .int .u8 oC, .int .i32 im] 48 rfl rfl 5 (.tmp 67) rfl 2 (by rw [E]; rfl) (by kernel_rfl) (.int .u8 oB) rfl (fun d hd => by cases hd; rw [E]; rfl) h
  · exact fun b w' _ _ h => may_field rfl 25 (.tmp 14) 0 rfl (.pointer (some ⟨gw, 0, none⟩)) (by rw [E]; rfl) (.pointer (some ⟨gw, 0, none⟩)) (fun w => by first | (go_simp; done) | (go_simp; rfl)) (fun d hd => by cases hd; rw [E]; rfl) h
  · exact fun b w' _ _ h => may_index rfl 23 (.tmp 69) (.tmp 68) rfl (.pointer (some ⟨gw, 0, none⟩)) (.int .u8 oB) (by rw [E]; rfl) (by rw [E]; rfl) (.pointer (some ⟨gw, oB.toNat, none⟩)) (fun w => idx23 gw .u8 oB hB.1 hB.2 w) (fun d hd => by cases hd; rw [E]; rfl) h
  · exact fun b w' _ _ h => may_load h 0 gw (cpv (R.set 0 0) P1) 25 rfl rfl 22 (.tmp 70) rfl oB.toNat (by rw [E]; rfl) (by kernel_rfl) (.int .u32 rb) HBr.out (fun d hd => by cases hd; rw [E]; rfl) h
  · exact fun b w' _ _ h => may_field rfl 48 (.tmp 12) 4 rfl (.pointer (some ⟨gi, 0, none⟩)) (by rw [E]; rfl) (.pointer (some ⟨gi, 4, none⟩)) (fun w => by first | (go_simp; done) | (go_simp; rfl)) (fun d hd => by cases hd; rw [E]; rfl) h
  · exact fun b w' _ _ h => may_load h 2 gi #[.int .u8 op, .int .u8 oA, .int .u8 oB, .int .u8 oC, .int .i32 im] 48 rfl rfl 21 (.tmp 72) rfl 4 (by rw [E]; rfl) (by kernel_rfl) (.int .i32 im) rfl (fun d hd => by cases hd; rw [E]; rfl) h
  · exact fun b w' _ _ h => may_convert rfl 21 22 (.tmp 73) rfl (.int .i32 im) (by rw [E]; rfl) (.int .u32 iw) (fun w => conv2122 im iw HI.out w) (fun d hd => by cases hd; rw [E]; rfl) h
  · exact fun b w' _ _ h => may_move rfl _ (by first | exact .inl rfl | exact .inr rfl) (.int .u32 ra) (by rw [E]; rfl) (fun d hd => by cases hd; rw [E]; rfl) h
  · exact fun b w' _ _ h => may_move rfl _ (by first | exact .inl rfl | exact .inr rfl) (.int .u32 rb) (by rw [E]; rfl) (fun d hd => by cases hd; rw [E]; rfl) h
  · exact fun b w' _ _ h => may_move rfl _ (by first | exact .inl rfl | exact .inr rfl) (.int .u32 iw) (by rw [E]; rfl) (fun d hd => by cases hd; rw [E]; rfl) h
  intro b w_ hall h
  clear HS
  have HS := Aside0.mk h
  clear h hall
  simp only [puts]
  go_wp2_with (first | ((with_reducible refine gate_dst (N := 77) rfl ?_); refine xl_bin rfl .add 22 22 (.tmp 75) (.tmp 76) rfl (.int .u32 rb) (.int .u32 iw) rfl rfl (.int .u32 at1) rfl (fun w => run_add 22 .u32 rb iw at1 HT.out w) ?_) | ((with_reducible refine gate_dst (N := 19) rfl ?_); refine xl_box HS.out rfl 19 rfl #[.int .i64 0, .int .u32 0] 35 ?hr ?_; (case hr => first | (go_simp; done) | (go_simp; rfl)); intro gv w_ hs_; clear HS; have HS := Aside0.mk hs_; clear hs_) | ((with_reducible refine gate_store (t := 35) (p := 19) rfl ?_); refine xl_storeRow HS.out 0 gv #[.int .i64 0, .int .u32 0] 35 rfl rfl rfl 35 (.tmp 19) (.tmp 78) rfl rfl #[.int .i64 0, .int .u32 0] rfl (by kernel_rfl) rfl (by simp [Value.oneCell']) ?_; intro w_ hs_; clear HS; have HS := Aside0.mk hs_; clear hs_) | ((with_reducible refine gate_dst (N := 80) rfl ?_); refine xl_load HS.out 3 gi #[.int .u8 op, .int .u8 oA, .int .u8 oB, .int .u8 oC, .int .i32 im] 48 rfl rfl 5 (.tmp 79) rfl 0 rfl (by kernel_rfl) (.int .u8 op) rfl ?_) | ((with_reducible refine gate_dst (N := 150) rfl ?_); refine xl_loadRow HS.out 7 gs (spv s) 29 rfl rfl 29 (.tmp 4) rfl rfl (by kernel_rfl) (space_info hs) ?_) | ((with_reducible refine gate_callee (f := 18) rfl ?_); refine goesL_ (some 154) rfl rfl Tryd.func18 (by kernel_rfl) rfl #[.slice A l.length c, .agg (spv s), .int .u32 at1, .int .i64 1, .int .u32 ra] rfl (by (try simp only [List.map_toArray, List.map_cons, List.map_nil]); first | done | rfl) ?_; refine (SN.out _ (Kd.C_below HR.out HS.out.below)).mono ?_; rintro e w_ ⟨rfl, hb_⟩; refine ⟨_, rfl, ?_⟩; have hs_ := HS.out.later hb_; clear HS; have HS := Aside0.mk hs_; clear hs_; clear hb_) | ((with_reducible refine gate_dst (N := 159) rfl ?_); refine xl_loadRow HS.out 8 gc (cpv R pc) 25 rfl rfl 25 (.tmp 3) rfl rfl (by kernel_rfl) (cpu_info pc hR) ?_) | ((with_reducible refine gate_store (t := 25) (p := 6) rfl ?_); refine xl_storeRow HS.out 6 gr (Array.replicate 17 (.int .u32 0)) 25 rfl rfl rfl 25 (.tmp 6) (.tmp 159) rfl rfl (cpv R pc) rfl (cpu_info pc hR) (by simp [cpv_size pc hR]) (cpv_one R pc) ?_; intro w_ hs_; clear HS; have HS := Aside0.mk hs_; clear hs_) | ((with_reducible refine gate_store (t := 35) (p := 8) rfl ?_); refine xl_storeRow HS.out 5 ge #[.int .i64 0, .int .u32 0] 35 rfl rfl rfl 35 (.tmp 8) (.tmp 162) rfl rfl #[.int .i64 2, .int .u32 at1] rfl (by kernel_rfl) rfl (by simp [Value.oneCell']) ?_; intro w_ hs_; clear HS; have HS := Aside0.mk hs_; clear hs_))
  refine bodyPost_ret (v := .tuple #[.agg (cpv R pc), v5, .agg #[.int .i64 2, .int .u32 at1]]) (results_list (rs := [.cell 6 25, .tmp 7, .cell 8 35]) (vs := [.agg (cpv R pc), v5, .agg #[.int .i64 2, .int .u32 at1]]) rfl (by simp) (.cell gr 25 (cpv R pc) (0, 0) _ rfl (HS.out.blk (n := 6) rfl) Tryd.underlying25 rfl (cpu_info pc hR) (.tmp (.cell ge 35 _ (0, 0) _ rfl (HS.out.blk (n := 5) rfl) Tryd.underlying35 rfl (by kernel_rfl) .nil)))) rfl ?_
  exact ⟨v5, rfl, HO.out _ (fun g hg => (HS.out.own _ (List.mem_of_getElem? (i := 4) rfl) g hg).2), HS.out.below⟩
end Go.Proofs.YtiklcpacbclpnaaDoor.P
end
section
set_option linter.unusedVariables false
set_option linter.unusedSimpArgs false
namespace Go.Proofs.YtiklcpacbclpnaaDoor.P
open Go.RowKit Go.Proofs.YtiklcpacbclpnaaDoorW.PrintWords Go.Proofs.YtiklcpacbclpnaaDoorW.PrintLast Go.Proofs.YtiklcpacbclpnaaDoorW.PrintMore
attribute [local go_sem] isSome_setCell_eq
set_option maxHeartbeats 8000000 in
set_option maxRecDepth 100000 in
theorem step_sw_yes (G : ByteArray → Int) (hG : ∀ b : ByteArray, b.size ≤ 8 → ∃ k, num_Get.f k b = some (G b)) (R : List Int) (pc : Int) (A : Option Addr) (c : Nat) (l : List ByteArray) (s : List Pg) (w : World) (hR : R.length = 16) (hpc : 0 ≤ pc) (hr : Kd.C Kd.string w A l.length l) (hc : l.length ≤ c) (hs : s.length = 16) (hl : l.length ≤ 100000) (r40 : Int) (hf : loadT G l s pc 4 = (r40, true)) (kd : Nat) (op oA oB oC im : Int) (hd : isa_Dec.f kd r40 = some (op, oA, oB, oC, im, true)) (hA : 0 ≤ oA ∧ oA < 16) (hB : 0 ≤ oB ∧ oB < 16) (P1 iw at1 ra rb : Int) (hP : IntKind.u32.wrap (pc + 4) = P1) (hI : IntKind.u32.wrap im = iw) (hT : IntKind.u32.wrap (rb + iw) = at1) (hra : (R.set 0 0).getD oA.toNat 0 = ra) (hrb : (R.set 0 0).getD oB.toNat 0 = rb) (at0 : 0 ≤ at1) (v0 : 0 ≤ ra) (v1 : ra < 4294967296) (hg : canStore l s at1 4 = true) (c13 : decide (op ≤ 13) = false) (c18 : decide (op ≤ 18) = false) (c19 : (op == 19) = false) (c22 : decide (op ≤ 22) = false) (c24 : decide (op ≤ 24) = true) (d24 : (op == 24) = false) :
    Calls Tryd.prog 7 #[.agg (cpv R pc), .agg (spv s), .slice A l.length c] w (StepEnds w (R.set 0 0) P1 l (stored l s at1 4 ra) 0 0) := by
  have HS := Aside0.mk (St.start w)
  have HR := Aside0.mk hr
  have HC := Aside0.mk hc
  have HL := Aside0.mk hl
  have HD := Aside0.mk hd
  have L4 := Aside0.mk (fun (w : World) (hr : Kd.C Kd.string w A l.length l) => load_calls G hG A c l s pc 4 w hr hc hs hpc (Or.inr rfl))
  rw [hf] at L4
  dsimp only at L4
  clear hr hc hl hd hf
  have hu25 := Tryd.underlying25
  have hR1 : (R.set 0 0).length = 16 := by simp [hR]
  have HP := Aside0.mk hP
  have HI := Aside0.mk hI
  have HT := Aside0.mk hT
  have HA : Aside0 ((cpv (R.set 0 0) P1)[oA.toNat]? = some (.int .u32 ra)) := ⟨by rw [cpv_at P1 hR1 (by omega), hra]⟩
  have HBr : Aside0 ((cpv (R.set 0 0) P1)[oB.toNat]? = some (.int .u32 rb)) := ⟨by rw [cpv_at P1 hR1 (by omega), hrb]⟩
  have HRA := Aside0.mk hra
  have HRB := Aside0.mk hrb
  clear hP hI hT hra hrb
  have SY := Aside0.mk (fun (w : World) (hr : Kd.C Kd.string w A l.length l) => store_yes A c l s at1 4 ra w hr HC.out HL.out hs at0 v0 v1 (Or.inr rfl) hg)
  clear hg
  have hR2 : (R.set 0 0).length = 16 := by simp [hR]
  go_enter Tryd.func7, Tryd.ntmps7
  go_wp2_with (first | ((with_reducible refine gate_dst (N := 3) rfl ?_); refine xl_box HS.out rfl 3 rfl (cpv R pc) 25 ?hr ?_; (case hr => first | (go_simp; done) | (go_simp; rfl)); intro gc w_ hs_; clear HS; have HS := Aside0.mk hs_; clear hs_) | ((with_reducible refine gate_dst (N := 4) rfl ?_); refine xl_box HS.out rfl 4 rfl (spv s) 29 ?hr ?_; (case hr => first | (go_simp; done) | (go_simp; rfl)); intro gs w_ hs_; clear HS; have HS := Aside0.mk hs_; clear hs_) | ((with_reducible refine gate_dst (N := 6) rfl ?_); refine xl_box HS.out rfl 6 rfl (Array.replicate 17 (.int .u32 0)) 25 ?hr ?_; (case hr => first | (go_simp; done) | (go_simp; rfl)); intro gr w_ hs_; clear HS; have HS := Aside0.mk hs_; clear hs_) | ((with_reducible refine gate_dst (N := 8) rfl ?_); refine xl_box HS.out rfl 8 rfl #[.int .i64 0, .int .u32 0] 35 ?hr ?_; (case hr => first | (go_simp; done) | (go_simp; rfl)); intro ge w_ hs_; clear HS; have HS := Aside0.mk hs_; clear hs_) | ((with_reducible refine gate_dst (N := 27) rfl ?_); refine Kd.R_append_row Value.string ByteArray.empty (h1 := fun _ => rfl) (w0 := w) w.heap.size rfl (.const (.slice none 0 0)) (.tmp 26) 30 9 (.string ByteArray.empty) 16 rfl Tryd.underlying30 (by kernel_rfl) rfl (by decide) (.slice none 0 0) [] l A l.length c (fun _ => True) rfl rfl (fun _ _ => trivial) (Kd.R_nil Kd.string 9 _ w.heap.size _) (Kd.C_below HR.out HS.out.below) HS.out.below HS.out.low (by have := HL.out; simp only [List.length_nil]; omega) ?_; intro v5 w5 ho hb hgr hfr; obtain ⟨c5, hs5, hk5⟩ := same_add HS.out ho hgr hfr; clear HS; have HS := Aside0.mk hs5; have HO := Aside0.mk hk5; clear hs5 hk5 ho hb hgr hfr) | ((with_reducible refine gate_dst (N := 30) rfl ?_); refine xl_loadRow HS.out 3 gs (spv s) 29 rfl rfl 29 (.tmp 4) rfl rfl (by kernel_rfl) (space_info hs) ?_) | ((with_reducible refine gate_dst (N := 32) rfl ?_); refine xl_load HS.out 4 gc (cpv R pc) 25 rfl rfl 22 (.tmp 31) rfl 16 rfl (by kernel_rfl) (.int .u32 pc) (cpv_pc pc hR) ?_) | ((with_reducible refine gate_callee (f := 13) rfl ?_); refine goesL_ (some 33) rfl rfl Tryd.func13 (by kernel_rfl) rfl #[.slice A l.length c, .agg (spv s), .int .u32 pc, .int .i64 4] rfl (by (try simp only [List.map_toArray, List.map_cons, List.map_nil]); first | done | rfl) ?_; refine (L4.out _ (Kd.C_below HR.out HS.out.below)).mono ?_; rintro e w_ ⟨rfl, hb_⟩; refine ⟨_, rfl, ?_⟩; have hs_ := HS.out.later hb_; clear HS; have HS := Aside0.mk hs_; clear hs_; clear hb_) | ((with_reducible refine gate_callee (f := 14) rfl ?_); refine goesL_ (some 45) rfl rfl Tryd.func14 (by kernel_rfl) rfl #[.int .u32 r40] rfl (by (try simp only [List.map_toArray, List.map_cons, List.map_nil]); first | done | rfl) ?_; refine (isa_Dec.calls kd r40 op oA oB oC im true _ HD.out).mono ?_; rintro e w_ ⟨rfl, hb_⟩; refine ⟨_, rfl, ?_⟩; have hs_ := HS.out.later hb_; clear HS; have HS := Aside0.mk hs_; clear hs_; clear hb_) | ((with_reducible refine gate_dst (N := 12) rfl ?_); refine xl_box HS.out rfl 12 rfl #[.int .u8 0, .int .u8 0, .int .u8 0, .int .u8 0, .int .i32 0] 48 ?hr ?_; (case hr => first | (go_simp; done) | (go_simp; rfl)); intro gi w_ hs_; clear HS; have HS := Aside0.mk hs_; clear hs_) | ((with_reducible refine gate_store (t := 48) (p := 12) rfl ?_); refine xl_storeRow HS.out 0 gi #[.int .u8 0, .int .u8 0, .int .u8 0, .int .u8 0, .int .i32 0] 48 rfl rfl rfl 48 (.tmp 12) (.tmp 46) rfl rfl #[.int .u8 op, .int .u8 oA, .int .u8 oB, .int .u8 oC, .int .i32 im] rfl (by kernel_rfl) rfl (by simp [Value.oneCell']) ?_; intro w_ hs_; clear HS; have HS := Aside0.mk hs_; clear hs_) | ((with_reducible refine gate_dst (N := 54) rfl ?_); refine xl_loadRow HS.out 5 gc (cpv R pc) 25 rfl rfl 25 (.tmp 3) rfl rfl (by kernel_rfl) (cpu_info pc hR) ?_) | ((with_reducible refine gate_dst (N := 13) rfl ?_); refine xl_box HS.out rfl 13 rfl (Array.replicate 17 (.int .u32 0)) 25 ?hr ?_; (case hr => first | (go_simp; done) | (go_simp; rfl)); intro gn w_ hs_; clear HS; have HS := Aside0.mk hs_; clear hs_) | ((with_reducible refine gate_store (t := 25) (p := 13) rfl ?_); refine xl_storeRow HS.out 0 gn (Array.replicate 17 (.int .u32 0)) 25 rfl rfl rfl 25 (.tmp 13) (.tmp 54) rfl rfl (cpv R pc) rfl (cpu_info pc hR) (by simp [cpv_size pc hR]) (cpv_one R pc) ?_; intro w_ hs_; clear HS; have HS := Aside0.mk hs_; clear hs_) | ((with_reducible refine gate_dst (N := 56) rfl ?_); refine xl_index rfl 23 (.tmp 55) (.const (.int .i64 0)) rfl (.pointer (some ⟨gn, 0, none⟩)) (.int .i64 0) rfl rfl (.pointer (some ⟨gn, 0, none⟩)) (fun w => idx23 gn .i64 0 (by decide) (by decide) w) ?_) | ((with_reducible refine gate_store (t := 22) (p := 56) rfl ?_); refine xl_store HS.out 0 gn (cpv R pc) 25 rfl rfl rfl 22 (.tmp 56) (.const (.int .u32 0)) rfl 0 rfl (.int .u32 0) rfl (by kernel_rfl) rfl (by simp [cpv_size pc hR]) ?_; intro w_ hs_; rw [cpv_set pc hR (by decide)] at hs_; clear HS; have HS := Aside0.mk hs_; clear hs_) | ((with_reducible refine gate_dst (N := 58) rfl ?_); refine xl_load HS.out 0 gn (cpv (R.set 0 0) pc) 25 rfl rfl 22 (.tmp 57) rfl 16 rfl (by kernel_rfl) (.int .u32 pc) (cpv_pc pc hR1) ?_) | ((with_reducible refine gate_dst (N := 59) rfl ?_); refine xl_bin rfl .add 22 22 (.tmp 58) (.const (.int .u32 4)) rfl (.int .u32 pc) (.int .u32 4) rfl rfl (.int .u32 P1) rfl (fun w => run_add 22 .u32 pc 4 P1 HP.out w) ?_) | ((with_reducible refine gate_store (t := 22) (p := 60) rfl ?_); refine xl_store HS.out 0 gn (cpv (R.set 0 0) pc) 25 rfl rfl rfl 22 (.tmp 60) (.tmp 59) rfl 16 rfl (.int .u32 P1) rfl (by kernel_rfl) rfl (by simp [cpv_size pc hR1]) ?_; intro w_ hs_; rw [cpv_set16 pc hR1] at hs_; clear HS; have HS := Aside0.mk hs_; clear hs_) | ((with_reducible refine gate_dst (N := 61) rfl ?_); refine xl_loadRow HS.out 0 gn (cpv (R.set 0 0) P1) 25 rfl rfl 25 (.tmp 13) rfl rfl (by kernel_rfl) (cpu_info P1 hR1) ?_) | ((with_reducible refine gate_dst (N := 14) rfl ?_); refine xl_box HS.out rfl 14 rfl (Array.replicate 17 (.int .u32 0)) 25 ?hr ?_; (case hr => first | (go_simp; done) | (go_simp; rfl)); intro gw w_ hs_; clear HS; have HS := Aside0.mk hs_; clear hs_) | ((with_reducible refine gate_store (t := 25) (p := 14) rfl ?_); refine xl_storeRow HS.out 0 gw (Array.replicate 17 (.int .u32 0)) 25 rfl rfl rfl 25 (.tmp 14) (.tmp 61) rfl rfl (cpv (R.set 0 0) P1) rfl (cpu_info P1 hR1) (by simp [cpv_size P1 hR1]) (cpv_one (R.set 0 0) P1) ?_; intro w_ hs_; clear HS; have HS := Aside0.mk hs_; clear hs_))
  refine region_det [(62, (.pointer (some ⟨gi, 1, none⟩))), (63, .int .u8 oA), (64, (.pointer (some ⟨gw, 0, none⟩))), (65, (.pointer (some ⟨gw, oA.toNat, none⟩))), (66, .int .u32 ra), (67, (.pointer (some ⟨gi, 2, none⟩))), (68, .int .u8 oB), (69, (.pointer (some ⟨gw, 0, none⟩))), (70, (.pointer (some ⟨gw, oB.toNat, none⟩))), (71, .int .u32 rb), (72, (.pointer (some ⟨gi, 4, none⟩))), (73, .int .i32 im), (74, .int .u32 iw), (15, .int .u32 ra), (16, .int .u32 rb), (17, .int .u32 iw)] (fun b w' => St w.heap.size w w' [(some gw, cpv (R.set 0 0) P1, 25), (some gn, cpv (R.set 0 0) P1, 25), (some gi, #[.int .u8 op, .int .u8 oA, .int .u8 oB, .int .u8 oC, .int .i32 im], 48), (v5.ownBlock, c5, 9), (some ge, #[.int .i64 0, .int .u32 0], 35), (some gr, (Array.replicate 17 (.int .u32 0)), 25), (some gs, spv s, 29), (some gc, cpv R pc, 25)]) (by kernel_rfl) (by kernel_rfl) (by kernel_rfl) (by kernel_rfl) HS.out.drew (fun af E => ⟨?_, ?_, ?_, ?_, ?_, ?_, ?_, ?_, ?_, ?_, ?_, ?_, ?_, ?_, ?_, ?_, trivial⟩) ?_
  · exact fun b w' _ _ h => may_field rfl 48 (.tmp 12) 1 rfl (.pointer (some ⟨gi, 0, none⟩)) (by rw [E]; rfl) (.pointer (some ⟨gi, 1, none⟩)) (fun w => by first | (go_simp; done) | (go_simp; rfl)) (fun d hd => by cases hd; rw [E]; rfl) h
  · exact fun b w' _ _ h => may_load h 2 gi #[.int .u8 op, .int .u8 oA, .int .u8 oB, .int .u8 oC, .int .i32 im] 48 rfl rfl 5 (.tmp 62) rfl 1 (by rw [E]; rfl) (by kernel_rfl) (.int .u8 oA) rfl (fun d hd => by cases hd; rw [E]; rfl) h
  · exact fun b w' _ _ h => may_field rfl 25 (.tmp 14) 0 rfl (.pointer (some ⟨gw, 0, none⟩)) (by rw [E]; rfl) (.pointer (some ⟨gw, 0, none⟩)) (fun w => by first | (go_simp; done) | (go_simp; rfl)) (fun d hd => by cases hd; rw [E]; rfl) h
  · exact fun b w' _ _ h => may_index rfl 23 (.tmp 64) (.tmp 63) rfl (.pointer (some ⟨gw, 0, none⟩)) (.int .u8 oA) (by rw [E]; rfl) (by rw [E]; rfl) (.pointer (some ⟨gw, oA.toNat, none⟩)) (fun w => idx23 gw .u8 oA hA.1 hA.2 w) (fun d hd => by cases hd; rw [E]; rfl) h
  · exact fun b w' _ _ h => may_load h 0 gw (cpv (R.set 0 0) P1) 25 rfl rfl 22 (.tmp 65) rfl oA.toNat (by rw [E]; rfl) (by kernel_rfl) (.int .u32 ra) HA.out (fun d hd => by cases hd; rw [E]; rfl) h
  · exact fun b w' _ _ h => may_field rfl 48 (.tmp 12) 2 rfl (.pointer (some ⟨gi, 0, none⟩)) (by rw [E]; rfl) (.pointer (some ⟨gi, 2, none⟩)) (fun w => by first | (go_simp; done) | (go_simp; rfl)) (fun d hd => by cases hd; rw [E]; rfl) h
  · exact fun b w' _ _ h => may_load h 2 gi #[.int .u8 op, .int .u8 oA, .int .u8 oB, .int .u8 oC, .int .i32 im] 48 rfl rfl 5 (.tmp 67) rfl 2 (by rw [E]; rfl) (by kernel_rfl) (.int .u8 oB) rfl (fun d hd => by cases hd; rw [E]; rfl) h
  · exact fun b w' _ _ h => may_field rfl 25 (.tmp 14) 0 rfl (.pointer (some ⟨gw, 0, none⟩)) (by rw [E]; rfl) (.pointer (some ⟨gw, 0, none⟩)) (fun w => by first | (go_simp; done) | (go_simp; rfl)) (fun d hd => by cases hd; rw [E]; rfl) h
  · exact fun b w' _ _ h => may_index rfl 23 (.tmp 69) (.tmp 68) rfl (.pointer (some ⟨gw, 0, none⟩)) (.int .u8 oB) (by rw [E]; rfl) (by rw [E]; rfl) (.pointer (some ⟨gw, oB.toNat, none⟩)) (fun w => idx23 gw .u8 oB hB.1 hB.2 w) (fun d hd => by cases hd; rw [E]; rfl) h
  · exact fun b w' _ _ h => may_load h 0 gw (cpv (R.set 0 0) P1) 25 rfl rfl 22 (.tmp 70) rfl oB.toNat (by rw [E]; rfl) (by kernel_rfl) (.int .u32 rb) HBr.out (fun d hd => by cases hd; rw [E]; rfl) h
  · exact fun b w' _ _ h => may_field rfl 48 (.tmp 12) 4 rfl (.pointer (some ⟨gi, 0, none⟩)) (by rw [E]; rfl) (.pointer (some ⟨gi, 4, none⟩)) (fun w => by first | (go_simp; done) | (go_simp; rfl)) (fun d hd => by cases hd; rw [E]; rfl) h
  · exact fun b w' _ _ h => may_load h 2 gi #[.int .u8 op, .int .u8 oA, .int .u8 oB, .int .u8 oC, .int .i32 im] 48 rfl rfl 21 (.tmp 72) rfl 4 (by rw [E]; rfl) (by kernel_rfl) (.int .i32 im) rfl (fun d hd => by cases hd; rw [E]; rfl) h
  · exact fun b w' _ _ h => may_convert rfl 21 22 (.tmp 73) rfl (.int .i32 im) (by rw [E]; rfl) (.int .u32 iw) (fun w => conv2122 im iw HI.out w) (fun d hd => by cases hd; rw [E]; rfl) h
  · exact fun b w' _ _ h => may_move rfl _ (by first | exact .inl rfl | exact .inr rfl) (.int .u32 ra) (by rw [E]; rfl) (fun d hd => by cases hd; rw [E]; rfl) h
  · exact fun b w' _ _ h => may_move rfl _ (by first | exact .inl rfl | exact .inr rfl) (.int .u32 rb) (by rw [E]; rfl) (fun d hd => by cases hd; rw [E]; rfl) h
  · exact fun b w' _ _ h => may_move rfl _ (by first | exact .inl rfl | exact .inr rfl) (.int .u32 iw) (by rw [E]; rfl) (fun d hd => by cases hd; rw [E]; rfl) h
  intro b w_ hall h
  clear HS
  have HS := Aside0.mk h
  clear h hall
  simp only [puts]
  go_wp2_with (first | ((with_reducible refine gate_dst (N := 77) rfl ?_); refine xl_bin rfl .add 22 22 (.tmp 75) (.tmp 76) rfl (.int .u32 rb) (.int .u32 iw) rfl rfl (.int .u32 at1) rfl (fun w => run_add 22 .u32 rb iw at1 HT.out w) ?_) | ((with_reducible refine gate_dst (N := 19) rfl ?_); refine xl_box HS.out rfl 19 rfl #[.int .i64 0, .int .u32 0] 35 ?hr ?_; (case hr => first | (go_simp; done) | (go_simp; rfl)); intro gv w_ hs_; clear HS; have HS := Aside0.mk hs_; clear hs_) | ((with_reducible refine gate_store (t := 35) (p := 19) rfl ?_); refine xl_storeRow HS.out 0 gv #[.int .i64 0, .int .u32 0] 35 rfl rfl rfl 35 (.tmp 19) (.tmp 78) rfl rfl #[.int .i64 0, .int .u32 0] rfl (by kernel_rfl) rfl (by simp [Value.oneCell']) ?_; intro w_ hs_; clear HS; have HS := Aside0.mk hs_; clear hs_) | ((with_reducible refine gate_dst (N := 80) rfl ?_); refine xl_load HS.out 3 gi #[.int .u8 op, .int .u8 oA, .int .u8 oB, .int .u8 oC, .int .i32 im] 48 rfl rfl 5 (.tmp 79) rfl 0 rfl (by kernel_rfl) (.int .u8 op) rfl ?_) | ((with_reducible refine gate_dst (N := 150) rfl ?_); refine xl_loadRow HS.out 7 gs (spv s) 29 rfl rfl 29 (.tmp 4) rfl rfl (by kernel_rfl) (space_info hs) ?_) | ((with_reducible refine gate_callee (f := 18) rfl ?_); refine goesL_ (some 154) rfl rfl Tryd.func18 (by kernel_rfl) rfl #[.slice A l.length c, .agg (spv s), .int .u32 at1, .int .i64 4, .int .u32 ra] rfl (by (try simp only [List.map_toArray, List.map_cons, List.map_nil]); first | done | rfl) ?_; refine (SY.out _ (Kd.C_below HR.out HS.out.below)).mono ?_; rintro e w_ ⟨u, rfl, hu_, hb_⟩; refine ⟨_, rfl, ?_⟩; obtain ⟨c5, hs_, ho_⟩ := store_add HS.out hu_ hb_; clear HS HO; have HS := Aside0.mk hs_; have HO := Aside0.mk ho_; clear hs_ ho_ hu_ hb_) | ((with_reducible refine gate_dst (N := 204) rfl ?_); refine xl_index rfl 23 (.tmp 203) (.const (.int .i64 0)) rfl (.pointer (some ⟨gn, 0, none⟩)) (.int .i64 0) rfl rfl (.pointer (some ⟨gn, 0, none⟩)) (fun w => idx23 gn .i64 0 (by decide) (by decide) w) ?_) | ((with_reducible refine gate_store (t := 22) (p := 204) rfl ?_); refine xl_store HS.out 2 gn (cpv (R.set 0 0) P1) 25 rfl rfl rfl 22 (.tmp 204) (.const (.int .u32 0)) rfl 0 rfl (.int .u32 0) rfl (by kernel_rfl) rfl (by simp [cpv_size P1 hR2]) ?_; intro w_ hs_; rw [cpv_set P1 hR2 (by decide), set00] at hs_; clear HS; have HS := Aside0.mk hs_; clear hs_))
  refine region_det [(205, .agg (cpv (R.set 0 0) P1)), (206, u), (207, .agg #[.int .i64 0, .int .u32 0]), (7, u)] (fun b w' => St w.heap.size w w' [(some gv, #[.int .i64 0, .int .u32 0], 35), (some gw, cpv (R.set 0 0) P1, 25), (some gn, cpv (R.set 0 0) P1, 25), (some gi, #[.int .u8 op, .int .u8 oA, .int .u8 oB, .int .u8 oC, .int .i32 im], 48), (u.ownBlock, c5, 9), (some ge, bif b 5 then #[.int .i64 0, .int .u32 0] else #[.int .i64 0, .int .u32 0], 35), (some gr, bif b 3 then cpv (R.set 0 0) P1 else (Array.replicate 17 (.int .u32 0)), 25), (some gs, spv s, 29), (some gc, cpv R pc, 25)]) (by kernel_rfl) (by kernel_rfl) (by kernel_rfl) (by kernel_rfl) HS.out.drew (fun af E => ⟨?_, ?_, ?_, ?_, ?_, ?_, trivial⟩) ?_
  · exact fun b w' _ _ h => may_loadRow h 2 gn (cpv (R.set 0 0) P1) 25 rfl rfl 25 (.tmp 13) rfl (by rw [E]; rfl) (by kernel_rfl) (cpu_info P1 (show (R.set 0 0).length = 16 by simp [hR2])) (fun d hd => by cases hd; rw [E]; rfl) h
  · exact fun b w' _ _ h => may_move rfl _ (by first | exact .inl rfl | exact .inr rfl) u (by rw [E]; rfl) (fun d hd => by cases hd; rw [E]; rfl) h
  · exact fun b w' _ _ h => may_loadRow h 0 gv #[.int .i64 0, .int .u32 0] 35 rfl rfl 35 (.tmp 19) rfl (by rw [E]; rfl) (by kernel_rfl) (by kernel_rfl) (fun d hd => by cases hd; rw [E]; rfl) h
  · exact fun b w' _ _ h => may_storeRow h 6 gr _ 25 rfl rfl rfl 25 (.tmp 6) (.tmp 205) rfl (by rw [E]; rfl) (cpv (R.set 0 0) P1) (by rw [E]; rfl) (cpu_info P1 (show (R.set 0 0).length = 16 by simp [hR2])) (by cases b 3 <;> simp [cpv_size P1 (show (R.set 0 0).length = 16 by simp [hR2])]) (cpv_one (R.set 0 0) P1) (fun _ h => h)
  · exact fun b w' _ _ h => may_move rfl _ (by first | exact .inl rfl | exact .inr rfl) u (by rw [E]; rfl) (fun d hd => by cases hd; rw [E]; rfl) h
  · exact fun b w' _ _ h => may_storeRow h 5 ge _ 35 rfl rfl rfl 35 (.tmp 8) (.tmp 207) rfl (by rw [E]; rfl) #[.int .i64 0, .int .u32 0] (by rw [E]; rfl) (by kernel_rfl) (by cases b 5 <;> rfl) (by simp [Value.oneCell']) (fun _ h => h)
  intro b w_ hall h
  rw [hall 3 (by decide)] at h
  rw [hall 5 (by decide)] at h
  simp only [cond_true] at h
  clear HS
  have HS := Aside0.mk h
  clear h hall
  simp only [puts]
  go_wp2
  refine bodyPost_ret (v := .tuple #[.agg (cpv (R.set 0 0) P1), u, .agg #[.int .i64 0, .int .u32 0]]) (results_list (rs := [.cell 6 25, .tmp 7, .cell 8 35]) (vs := [.agg (cpv (R.set 0 0) P1), u, .agg #[.int .i64 0, .int .u32 0]]) rfl (by simp) (.cell gr 25 (cpv (R.set 0 0) P1) (0, 0) _ rfl (HS.out.blk (n := 6) rfl) Tryd.underlying25 rfl (cpu_info P1 (show (R.set 0 0).length = 16 by simp [hR2])) (.tmp (.cell ge 35 _ (0, 0) _ rfl (HS.out.blk (n := 5) rfl) Tryd.underlying35 rfl (by kernel_rfl) .nil)))) rfl ?_
  exact ⟨u, rfl, HO.out _ (fun g hg => (HS.out.own _ (List.mem_of_getElem? (i := 4) rfl) g hg).2), HS.out.below⟩
set_option maxHeartbeats 8000000 in
set_option maxRecDepth 100000 in
theorem step_sw_no (G : ByteArray → Int) (hG : ∀ b : ByteArray, b.size ≤ 8 → ∃ k, num_Get.f k b = some (G b)) (R : List Int) (pc : Int) (A : Option Addr) (c : Nat) (l : List ByteArray) (s : List Pg) (w : World) (hR : R.length = 16) (hpc : 0 ≤ pc) (hr : Kd.C Kd.string w A l.length l) (hc : l.length ≤ c) (hs : s.length = 16) (hl : l.length ≤ 100000) (r40 : Int) (hf : loadT G l s pc 4 = (r40, true)) (kd : Nat) (op oA oB oC im : Int) (hd : isa_Dec.f kd r40 = some (op, oA, oB, oC, im, true)) (hA : 0 ≤ oA ∧ oA < 16) (hB : 0 ≤ oB ∧ oB < 16) (P1 iw at1 ra rb : Int) (hP : IntKind.u32.wrap (pc + 4) = P1) (hI : IntKind.u32.wrap im = iw) (hT : IntKind.u32.wrap (rb + iw) = at1) (hra : (R.set 0 0).getD oA.toNat 0 = ra) (hrb : (R.set 0 0).getD oB.toNat 0 = rb) (at0 : 0 ≤ at1) (v0 : 0 ≤ ra) (v1 : ra < 4294967296) (hg : canStore l s at1 4 = false) (c13 : decide (op ≤ 13) = false) (c18 : decide (op ≤ 18) = false) (c19 : (op == 19) = false) (c22 : decide (op ≤ 22) = false) (c24 : decide (op ≤ 24) = true) (d24 : (op == 24) = false) :
    Calls Tryd.prog 7 #[.agg (cpv R pc), .agg (spv s), .slice A l.length c] w (StepEnds w R pc l l 2 at1) := by
  have HS := Aside0.mk (St.start w)
  have HR := Aside0.mk hr
  have HC := Aside0.mk hc
  have HL := Aside0.mk hl
  have HD := Aside0.mk hd
  have L4 := Aside0.mk (fun (w : World) (hr : Kd.C Kd.string w A l.length l) => load_calls G hG A c l s pc 4 w hr hc hs hpc (Or.inr rfl))
  rw [hf] at L4
  dsimp only at L4
  clear hr hc hl hd hf
  have hu25 := Tryd.underlying25
  have hR1 : (R.set 0 0).length = 16 := by simp [hR]
  have HP := Aside0.mk hP
  have HI := Aside0.mk hI
  have HT := Aside0.mk hT
  have HA : Aside0 ((cpv (R.set 0 0) P1)[oA.toNat]? = some (.int .u32 ra)) := ⟨by rw [cpv_at P1 hR1 (by omega), hra]⟩
  have HBr : Aside0 ((cpv (R.set 0 0) P1)[oB.toNat]? = some (.int .u32 rb)) := ⟨by rw [cpv_at P1 hR1 (by omega), hrb]⟩
  have HRA := Aside0.mk hra
  have HRB := Aside0.mk hrb
  clear hP hI hT hra hrb
  have SN := Aside0.mk (fun (w : World) (hr : Kd.C Kd.string w A l.length l) => store_no A c l s at1 4 ra w hr HC.out hs at0 (Or.inr rfl) hg)
  clear hg
  go_enter Tryd.func7, Tryd.ntmps7
  go_wp2_with (first | ((with_reducible refine gate_dst (N := 3) rfl ?_); refine xl_box HS.out rfl 3 rfl (cpv R pc) 25 ?hr ?_; (case hr => first | (go_simp; done) | (go_simp; rfl)); intro gc w_ hs_; clear HS; have HS := Aside0.mk hs_; clear hs_) | ((with_reducible refine gate_dst (N := 4) rfl ?_); refine xl_box HS.out rfl 4 rfl (spv s) 29 ?hr ?_; (case hr => first | (go_simp; done) | (go_simp; rfl)); intro gs w_ hs_; clear HS; have HS := Aside0.mk hs_; clear hs_) | ((with_reducible refine gate_dst (N := 6) rfl ?_); refine xl_box HS.out rfl 6 rfl (Array.replicate 17 (.int .u32 0)) 25 ?hr ?_; (case hr => first | (go_simp; done) | (go_simp; rfl)); intro gr w_ hs_; clear HS; have HS := Aside0.mk hs_; clear hs_) | ((with_reducible refine gate_dst (N := 8) rfl ?_); refine xl_box HS.out rfl 8 rfl #[.int .i64 0, .int .u32 0] 35 ?hr ?_; (case hr => first | (go_simp; done) | (go_simp; rfl)); intro ge w_ hs_; clear HS; have HS := Aside0.mk hs_; clear hs_) | ((with_reducible refine gate_dst (N := 27) rfl ?_); refine Kd.R_append_row Value.string ByteArray.empty (h1 := fun _ => rfl) (w0 := w) w.heap.size rfl (.const (.slice none 0 0)) (.tmp 26) 30 9 (.string ByteArray.empty) 16 rfl Tryd.underlying30 (by kernel_rfl) rfl (by decide) (.slice none 0 0) [] l A l.length c (fun _ => True) rfl rfl (fun _ _ => trivial) (Kd.R_nil Kd.string 9 _ w.heap.size _) (Kd.C_below HR.out HS.out.below) HS.out.below HS.out.low (by have := HL.out; simp only [List.length_nil]; omega) ?_; intro v5 w5 ho hb hgr hfr; obtain ⟨c5, hs5, hk5⟩ := same_add HS.out ho hgr hfr; clear HS; have HS := Aside0.mk hs5; have HO := Aside0.mk hk5; clear hs5 hk5 ho hb hgr hfr) | ((with_reducible refine gate_dst (N := 30) rfl ?_); refine xl_loadRow HS.out 3 gs (spv s) 29 rfl rfl 29 (.tmp 4) rfl rfl (by kernel_rfl) (space_info hs) ?_) | ((with_reducible refine gate_dst (N := 32) rfl ?_); refine xl_load HS.out 4 gc (cpv R pc) 25 rfl rfl 22 (.tmp 31) rfl 16 rfl (by kernel_rfl) (.int .u32 pc) (cpv_pc pc hR) ?_) | ((with_reducible refine gate_callee (f := 13) rfl ?_); refine goesL_ (some 33) rfl rfl Tryd.func13 (by kernel_rfl) rfl #[.slice A l.length c, .agg (spv s), .int .u32 pc, .int .i64 4] rfl (by (try simp only [List.map_toArray, List.map_cons, List.map_nil]); first | done | rfl) ?_; refine (L4.out _ (Kd.C_below HR.out HS.out.below)).mono ?_; rintro e w_ ⟨rfl, hb_⟩; refine ⟨_, rfl, ?_⟩; have hs_ := HS.out.later hb_; clear HS; have HS := Aside0.mk hs_; clear hs_; clear hb_) | ((with_reducible refine gate_callee (f := 14) rfl ?_); refine goesL_ (some 45) rfl rfl Tryd.func14 (by kernel_rfl) rfl #[.int .u32 r40] rfl (by (try simp only [List.map_toArray, List.map_cons, List.map_nil]); first | done | rfl) ?_; refine (isa_Dec.calls kd r40 op oA oB oC im true _ HD.out).mono ?_; rintro e w_ ⟨rfl, hb_⟩; refine ⟨_, rfl, ?_⟩; have hs_ := HS.out.later hb_; clear HS; have HS := Aside0.mk hs_; clear hs_; clear hb_) | ((with_reducible refine gate_dst (N := 12) rfl ?_); refine xl_box HS.out rfl 12 rfl #[.int .u8 0, .int .u8 0, .int .u8 0, .int .u8 0, .int .i32 0] 48 ?hr ?_; (case hr => first | (go_simp; done) | (go_simp; rfl)); intro gi w_ hs_; clear HS; have HS := Aside0.mk hs_; clear hs_) | ((with_reducible refine gate_store (t := 48) (p := 12) rfl ?_); refine xl_storeRow HS.out 0 gi #[.int .u8 0, .int .u8 0, .int .u8 0, .int .u8 0, .int .i32 0] 48 rfl rfl rfl 48 (.tmp 12) (.tmp 46) rfl rfl #[.int .u8 op, .int .u8 oA, .int .u8 oB, .int .u8 oC, .int .i32 im] rfl (by kernel_rfl) rfl (by simp [Value.oneCell']) ?_; intro w_ hs_; clear HS; have HS := Aside0.mk hs_; clear hs_) | ((with_reducible refine gate_dst (N := 54) rfl ?_); refine xl_loadRow HS.out 5 gc (cpv R pc) 25 rfl rfl 25 (.tmp 3) rfl rfl (by kernel_rfl) (cpu_info pc hR) ?_) | ((with_reducible refine gate_dst (N := 13) rfl ?_); refine xl_box HS.out rfl 13 rfl (Array.replicate 17 (.int .u32 0)) 25 ?hr ?_; (case hr => first | (go_simp; done) | (go_simp; rfl)); intro gn w_ hs_; clear HS; have HS := Aside0.mk hs_; clear hs_) | ((with_reducible refine gate_store (t := 25) (p := 13) rfl ?_); refine xl_storeRow HS.out 0 gn (Array.replicate 17 (.int .u32 0)) 25 rfl rfl rfl 25 (.tmp 13) (.tmp 54) rfl rfl (cpv R pc) rfl (cpu_info pc hR) (by simp [cpv_size pc hR]) (cpv_one R pc) ?_; intro w_ hs_; clear HS; have HS := Aside0.mk hs_; clear hs_) | ((with_reducible refine gate_dst (N := 56) rfl ?_); refine xl_index rfl 23 (.tmp 55) (.const (.int .i64 0)) rfl (.pointer (some ⟨gn, 0, none⟩)) (.int .i64 0) rfl rfl (.pointer (some ⟨gn, 0, none⟩)) (fun w => idx23 gn .i64 0 (by decide) (by decide) w) ?_) | ((with_reducible refine gate_store (t := 22) (p := 56) rfl ?_); refine xl_store HS.out 0 gn (cpv R pc) 25 rfl rfl rfl 22 (.tmp 56) (.const (.int .u32 0)) rfl 0 rfl (.int .u32 0) rfl (by kernel_rfl) rfl (by simp [cpv_size pc hR]) ?_; intro w_ hs_; rw [cpv_set pc hR (by decide)] at hs_; clear HS; have HS := Aside0.mk hs_; clear hs_) | ((with_reducible refine gate_dst (N := 58) rfl ?_); refine xl_load HS.out 0 gn (cpv (R.set 0 0) pc) 25 rfl rfl 22 (.tmp 57) rfl 16 rfl (by kernel_rfl) (.int .u32 pc) (cpv_pc pc hR1) ?_) | ((with_reducible refine gate_dst (N := 59) rfl ?_); refine xl_bin rfl .add 22 22 (.tmp 58) (.const (.int .u32 4)) rfl (.int .u32 pc) (.int .u32 4) rfl rfl (.int .u32 P1) rfl (fun w => run_add 22 .u32 pc 4 P1 HP.out w) ?_) | ((with_reducible refine gate_store (t := 22) (p := 60) rfl ?_); refine xl_store HS.out 0 gn (cpv (R.set 0 0) pc) 25 rfl rfl rfl 22 (.tmp 60) (.tmp 59) rfl 16 rfl (.int .u32 P1) rfl (by kernel_rfl) rfl (by simp [cpv_size pc hR1]) ?_; intro w_ hs_; rw [cpv_set16 pc hR1] at hs_; clear HS; have HS := Aside0.mk hs_; clear hs_) | ((with_reducible refine gate_dst (N := 61) rfl ?_); refine xl_loadRow HS.out 0 gn (cpv (R.set 0 0) P1) 25 rfl rfl 25 (.tmp 13) rfl rfl (by kernel_rfl) (cpu_info P1 hR1) ?_) | ((with_reducible refine gate_dst (N := 14) rfl ?_); refine xl_box HS.out rfl 14 rfl (Array.replicate 17 (.int .u32 0)) 25 ?hr ?_; (case hr => first | (go_simp; done) | (go_simp; rfl)); intro gw w_ hs_; clear HS; have HS := Aside0.mk hs_; clear hs_) | ((with_reducible refine gate_store (t := 25) (p := 14) rfl ?_); refine xl_storeRow HS.out 0 gw (Array.replicate 17 (.int .u32 0)) 25 rfl rfl rfl 25 (.tmp 14) (.tmp 61) rfl rfl (cpv (R.set 0 0) P1) rfl (cpu_info P1 hR1) (by simp [cpv_size P1 hR1]) (cpv_one (R.set 0 0) P1) ?_; intro w_ hs_; clear HS; have HS := Aside0.mk hs_; clear hs_))
  refine region_det [(62, (.pointer (some ⟨gi, 1, none⟩))), (63, .int .u8 oA), (64, (.pointer (some ⟨gw, 0, none⟩))), (65, (.pointer (some ⟨gw, oA.toNat, none⟩))), (66, .int .u32 ra), (67, (.pointer (some ⟨gi, 2, none⟩))), (68, .int .u8 oB), (69, (.pointer (some ⟨gw, 0, none⟩))), (70, (.pointer (some ⟨gw, oB.toNat, none⟩))), (71, .int .u32 rb), (72, (.pointer (some ⟨gi, 4, none⟩))), (73, .int .i32 im), (74, .int .u32 iw), (15, .int .u32 ra), (16, .int .u32 rb), (17, .int .u32 iw)] (fun b w' => St w.heap.size w w' [(some gw, cpv (R.set 0 0) P1, 25), (some gn, cpv (R.set 0 0) P1, 25), (some gi, #[.int .u8 op, .int .u8 oA, .int .u8 oB, .int .u8 oC, .int .i32 im], 48), (v5.ownBlock, c5, 9), (some ge, #[.int .i64 0, .int .u32 0], 35), (some gr, (Array.replicate 17 (.int .u32 0)), 25), (some gs, spv s, 29), (some gc, cpv R pc, 25)]) (by kernel_rfl) (by kernel_rfl) (by kernel_rfl) (by kernel_rfl) HS.out.drew (fun af E => ⟨?_, ?_, ?_, ?_, ?_, ?_, ?_, ?_, ?_, ?_, ?_, ?_, ?_, ?_, ?_, ?_, trivial⟩) ?_
  · exact fun b w' _ _ h => may_field rfl 48 (.tmp 12) 1 rfl (.pointer (some ⟨gi, 0, none⟩)) (by rw [E]; rfl) (.pointer (some ⟨gi, 1, none⟩)) (fun w => by first | (go_simp; done) | (go_simp; rfl)) (fun d hd => by cases hd; rw [E]; rfl) h
  · exact fun b w' _ _ h => may_load h 2 gi #[.int .u8 op, .int .u8 oA, .int .u8 oB, .int .u8 oC, .int .i32 im] 48 rfl rfl 5 (.tmp 62) rfl 1 (by rw [E]; rfl) (by kernel_rfl) (.int .u8 oA) rfl (fun d hd => by cases hd; rw [E]; rfl) h
  · exact fun b w' _ _ h => may_field rfl 25 (.tmp 14) 0 rfl (.pointer (some ⟨gw, 0, none⟩)) (by rw [E]; rfl) (.pointer (some ⟨gw, 0, none⟩)) (fun w => by first | (go_simp; done) | (go_simp; rfl)) (fun d hd => by cases hd; rw [E]; rfl) h
  · exact fun b w' _ _ h => may_index rfl 23 (.tmp 64) (.tmp 63) rfl (.pointer (some ⟨gw, 0, none⟩)) (.int .u8 oA) (by rw [E]; rfl) (by rw [E]; rfl) (.pointer (some ⟨gw, oA.toNat, none⟩)) (fun w => idx23 gw .u8 oA hA.1 hA.2 w) (fun d hd => by cases hd; rw [E]; rfl) h
  · exact fun b w' _ _ h => may_load h 0 gw (cpv (R.set 0 0) P1) 25 rfl rfl 22 (.tmp 65) rfl oA.toNat (by rw [E]; rfl) (by kernel_rfl) (.int .u32 ra) HA.out (fun d hd => by cases hd; rw [E]; rfl) h
  · exact fun b w' _ _ h => may_field rfl 48 (.tmp 12) 2 rfl (.pointer (some ⟨gi, 0, none⟩)) (by rw [E]; rfl) (.pointer (some ⟨gi, 2, none⟩)) (fun w => by first | (go_simp; done) | (go_simp; rfl)) (fun d hd => by cases hd; rw [E]; rfl) h
  · exact fun b w' _ _ h => may_load h 2 gi #[.int .u8 op, .int .u8 oA, .int .u8 oB, .int .u8 oC, .int .i32 im] 48 rfl rfl 5 (.tmp 67) rfl 2 (by rw [E]; rfl) (by kernel_rfl) (.int .u8 oB) rfl (fun d hd => by cases hd; rw [E]; rfl) h
  · exact fun b w' _ _ h => may_field rfl 25 (.tmp 14) 0 rfl (.pointer (some ⟨gw, 0, none⟩)) (by rw [E]; rfl) (.pointer (some ⟨gw, 0, none⟩)) (fun w => by first | (go_simp; done) | (go_simp; rfl)) (fun d hd => by cases hd; rw [E]; rfl) h
  · exact fun b w' _ _ h => may_index rfl 23 (.tmp 69) (.tmp 68) rfl (.pointer (some ⟨gw, 0, none⟩)) (.int .u8 oB) (by rw [E]; rfl) (by rw [E]; rfl) (.pointer (some ⟨gw, oB.toNat, none⟩)) (fun w => idx23 gw .u8 oB hB.1 hB.2 w) (fun d hd => by cases hd; rw [E]; rfl) h
  · exact fun b w' _ _ h => may_load h 0 gw (cpv (R.set 0 0) P1) 25 rfl rfl 22 (.tmp 70) rfl oB.toNat (by rw [E]; rfl) (by kernel_rfl) (.int .u32 rb) HBr.out (fun d hd => by cases hd; rw [E]; rfl) h
  · exact fun b w' _ _ h => may_field rfl 48 (.tmp 12) 4 rfl (.pointer (some ⟨gi, 0, none⟩)) (by rw [E]; rfl) (.pointer (some ⟨gi, 4, none⟩)) (fun w => by first | (go_simp; done) | (go_simp; rfl)) (fun d hd => by cases hd; rw [E]; rfl) h
  · exact fun b w' _ _ h => may_load h 2 gi #[.int .u8 op, .int .u8 oA, .int .u8 oB, .int .u8 oC, .int .i32 im] 48 rfl rfl 21 (.tmp 72) rfl 4 (by rw [E]; rfl) (by kernel_rfl) (.int .i32 im) rfl (fun d hd => by cases hd; rw [E]; rfl) h
  · exact fun b w' _ _ h => may_convert rfl 21 22 (.tmp 73) rfl (.int .i32 im) (by rw [E]; rfl) (.int .u32 iw) (fun w => conv2122 im iw HI.out w) (fun d hd => by cases hd; rw [E]; rfl) h
  · exact fun b w' _ _ h => may_move rfl _ (by first | exact .inl rfl | exact .inr rfl) (.int .u32 ra) (by rw [E]; rfl) (fun d hd => by cases hd; rw [E]; rfl) h
  · exact fun b w' _ _ h => may_move rfl _ (by first | exact .inl rfl | exact .inr rfl) (.int .u32 rb) (by rw [E]; rfl) (fun d hd => by cases hd; rw [E]; rfl) h
  · exact fun b w' _ _ h => may_move rfl _ (by first | exact .inl rfl | exact .inr rfl) (.int .u32 iw) (by rw [E]; rfl) (fun d hd => by cases hd; rw [E]; rfl) h
  intro b w_ hall h
  clear HS
  have HS := Aside0.mk h
  clear h hall
  simp only [puts]
  go_wp2_with (first | ((with_reducible refine gate_dst (N := 77) rfl ?_); refine xl_bin rfl .add 22 22 (.tmp 75) (.tmp 76) rfl (.int .u32 rb) (.int .u32 iw) rfl rfl (.int .u32 at1) rfl (fun w => run_add 22 .u32 rb iw at1 HT.out w) ?_) | ((with_reducible refine gate_dst (N := 19) rfl ?_); refine xl_box HS.out rfl 19 rfl #[.int .i64 0, .int .u32 0] 35 ?hr ?_; (case hr => first | (go_simp; done) | (go_simp; rfl)); intro gv w_ hs_; clear HS; have HS := Aside0.mk hs_; clear hs_) | ((with_reducible refine gate_store (t := 35) (p := 19) rfl ?_); refine xl_storeRow HS.out 0 gv #[.int .i64 0, .int .u32 0] 35 rfl rfl rfl 35 (.tmp 19) (.tmp 78) rfl rfl #[.int .i64 0, .int .u32 0] rfl (by kernel_rfl) rfl (by simp [Value.oneCell']) ?_; intro w_ hs_; clear HS; have HS := Aside0.mk hs_; clear hs_) | ((with_reducible refine gate_dst (N := 80) rfl ?_); refine xl_load HS.out 3 gi #[.int .u8 op, .int .u8 oA, .int .u8 oB, .int .u8 oC, .int .i32 im] 48 rfl rfl 5 (.tmp 79) rfl 0 rfl (by kernel_rfl) (.int .u8 op) rfl ?_) | ((with_reducible refine gate_dst (N := 150) rfl ?_); refine xl_loadRow HS.out 7 gs (spv s) 29 rfl rfl 29 (.tmp 4) rfl rfl (by kernel_rfl) (space_info hs) ?_) | ((with_reducible refine gate_callee (f := 18) rfl ?_); refine goesL_ (some 154) rfl rfl Tryd.func18 (by kernel_rfl) rfl #[.slice A l.length c, .agg (spv s), .int .u32 at1, .int .i64 4, .int .u32 ra] rfl (by (try simp only [List.map_toArray, List.map_cons, List.map_nil]); first | done | rfl) ?_; refine (SN.out _ (Kd.C_below HR.out HS.out.below)).mono ?_; rintro e w_ ⟨rfl, hb_⟩; refine ⟨_, rfl, ?_⟩; have hs_ := HS.out.later hb_; clear HS; have HS := Aside0.mk hs_; clear hs_; clear hb_) | ((with_reducible refine gate_dst (N := 159) rfl ?_); refine xl_loadRow HS.out 8 gc (cpv R pc) 25 rfl rfl 25 (.tmp 3) rfl rfl (by kernel_rfl) (cpu_info pc hR) ?_) | ((with_reducible refine gate_store (t := 25) (p := 6) rfl ?_); refine xl_storeRow HS.out 6 gr (Array.replicate 17 (.int .u32 0)) 25 rfl rfl rfl 25 (.tmp 6) (.tmp 159) rfl rfl (cpv R pc) rfl (cpu_info pc hR) (by simp [cpv_size pc hR]) (cpv_one R pc) ?_; intro w_ hs_; clear HS; have HS := Aside0.mk hs_; clear hs_) | ((with_reducible refine gate_store (t := 35) (p := 8) rfl ?_); refine xl_storeRow HS.out 5 ge #[.int .i64 0, .int .u32 0] 35 rfl rfl rfl 35 (.tmp 8) (.tmp 162) rfl rfl #[.int .i64 2, .int .u32 at1] rfl (by kernel_rfl) rfl (by simp [Value.oneCell']) ?_; intro w_ hs_; clear HS; have HS := Aside0.mk hs_; clear hs_))
  refine bodyPost_ret (v := .tuple #[.agg (cpv R pc), v5, .agg #[.int .i64 2, .int .u32 at1]]) (results_list (rs := [.cell 6 25, .tmp 7, .cell 8 35]) (vs := [.agg (cpv R pc), v5, .agg #[.int .i64 2, .int .u32 at1]]) rfl (by simp) (.cell gr 25 (cpv R pc) (0, 0) _ rfl (HS.out.blk (n := 6) rfl) Tryd.underlying25 rfl (cpu_info pc hR) (.tmp (.cell ge 35 _ (0, 0) _ rfl (HS.out.blk (n := 5) rfl) Tryd.underlying35 rfl (by kernel_rfl) .nil)))) rfl ?_
  exact ⟨v5, rfl, HO.out _ (fun g hg => (HS.out.own _ (List.mem_of_getElem? (i := 4) rfl) g hg).2), HS.out.below⟩
end Go.Proofs.YtiklcpacbclpnaaDoor.P
end
section
set_option linter.unusedSimpArgs false
set_option linter.unusedVariables false
namespace Go.Proofs.YtiklcpacbclpnaaDoor.Q
open Go.RowKit Go.Proofs.YtiklcpacbclpnaaDoor.P Go.Proofs.YtiklcpacbclpnaaDoorW.PrintWords Go.Proofs.YtiklcpacbclpnaaDoorW.PrintLast Go.Proofs.YtiklcpacbclpnaaDoorW.PrintMore
theorem wrap64_id {n : Int} (h0 : -9223372036854775808 ≤ n) (h1 : n ≤ 9223372036854775807) : wrap64 n = n := by
  unfold wrap64; omega
def formB : ByteArray := ⟨#[114, 114, 114, 114, 114, 114, 114, 114, 114, 114, 114, 114, 114, 105, 105, 105, 105, 105, 108, 109, 109, 109, 109, 109, 105, 105, 105, 105, 108, 109, 110]⟩
def frm (o : Int) : Int := if o < 1 ∨ 31 < o then 0 else bt formB (o - 1)
theorem form_eq (o : Int) (h0 : 0 ≤ o) (h1 : o < 256) : isa_form.f o = some (frm o) := by
  have hw : wrap64 o = o := wrap64_id (by omega) (by omega)
  unfold isa_form.f frm
  rw [hw]
  by_cases a : o < 1
  · rw [if_pos a, if_pos (Or.inl a)]
  · rw [if_neg a]
    by_cases b : o > 31
    · rw [if_pos b, if_pos (Or.inr b)]
    · have e : (o - 1) % 256 = o - 1 := by omega
      rw [if_neg b, if_neg (show ¬(o < 1 ∨ 31 < o) by omega), e, if_pos (by omega), if_pos (by omega)]
      rfl
theorem has_eq (f : Int) : isa_has.f f = some (f != 110, f == 114 || f == 105 || f == 109, f == 114, f != 114) := by
  unfold isa_has.f
  by_cases a : f = 114
  · subst a; rfl
  · rw [if_neg a]
    by_cases b : f = 105
    · subst b; rfl
    · rw [if_neg b]
      have a' : (f == 114) = false := beq_eq_false_iff_ne.2 a
      have b' : (f == 105) = false := beq_eq_false_iff_ne.2 b
      simp [a', b']
def pl (o : Int) : Bool := decide (Lib.indexByte (⟨#[15, 16, 17, 19, 31]⟩ : ByteArray).data.toList o.toNat.toUInt8 ≥ 0)
def fit (o n : Int) : Bool := if pl o then decide (0 ≤ n ∧ n ≤ 65535) else decide (-32768 ≤ n ∧ n ≤ 32767)
theorem fits_eq (o n : Int) : isa_fits.f o n = some (fit o n) := by
  unfold isa_fits.f fit pl strings_IndexByte.f
  simp only [Option.bind_some, decide_eq_true_eq]
  by_cases a : Lib.indexByte (⟨#[15, 16, 17, 19, 31]⟩ : ByteArray).data.toList o.toNat.toUInt8 ≥ 0
  · rw [if_pos a, if_pos a]
    by_cases b : n ≥ 0
    · rw [if_pos b]; simp [show 0 ≤ n from b]
    · rw [if_neg b]; simp [show ¬ 0 ≤ n from b]
  · rw [if_neg a, if_neg a]
    by_cases b : n ≥ -32768
    · rw [if_pos b]; simp [show -32768 ≤ n from b]
    · rw [if_neg b]; simp [show ¬ -32768 ≤ n from b]
def bad (f a b c n : Int) : Bool := decide (a > 15) || decide (b > 15) || decide (c > 15) || (f == 110 && a != 0) || (!(f == 114 || f == 105 || f == 109) && b != 0) || (f != 114 && c != 0) || (f == 114 && n != 0)
theorem enc_eq (k : Nat) (o a b c n : Int) (h0 : 0 ≤ o) (h1 : o < 256) (hf : frm o ≠ 0) : isa_Enc.f k o a b c n = isa_Enc.j0 k (frm o != 114) (bad (frm o) a b c n) o a b c n := by
  unfold isa_Enc.f
  rw [form_eq o h0 h1]
  simp only [Option.bind_some, has_eq, if_neg hf]
  generalize frm o = f
  unfold bad
  have e1 : (f != 110) = !(f == 110) := rfl
  have e2 : (f != 114) = !(f == 114) := rfl
  rw [e1, e2]
  generalize (f == 110) = x
  generalize (f == 114) = y
  generalize (f == 105) = z
  generalize (f == 109) = t
  by_cases p : a > 15
  · rw [if_pos p]; simp [p]
  by_cases q : b > 15
  · rw [if_neg p, if_pos q]; simp [q]
  by_cases r : c > 15
  · rw [if_neg p, if_neg q, if_pos r]; simp [r]
  rw [if_neg p, if_neg q, if_neg r]
  have e3 : (a != 0) = !(decide (a = 0)) := by by_cases h : a = 0 <;> simp [h]
  have e4 : (b != 0) = !(decide (b = 0)) := by by_cases h : b = 0 <;> simp [h]
  have e5 : (c != 0) = !(decide (c = 0)) := by by_cases h : c = 0 <;> simp [h]
  rw [e3, e4, e5, decide_eq_false p, decide_eq_false q, decide_eq_false r]
  generalize (n != 0) = s
  by_cases ha : a = 0 <;> by_cases hb : b = 0 <;> by_cases hc : c = 0 <;> cases x <;> cases y <;> cases z <;> cases t <;> simp [ha, hb, hc]
end Go.Proofs.YtiklcpacbclpnaaDoor.Q
end
section
set_option linter.unusedSimpArgs false
set_option linter.unusedVariables false
namespace Go.Proofs.YtiklcpacbclpnaaDoor.Q
open Go.RowKit Go.Proofs.YtiklcpacbclpnaaDoor.P Go.Proofs.YtiklcpacbclpnaaDoorW.PrintWords Go.Proofs.YtiklcpacbclpnaaDoorW.PrintLast Go.Proofs.YtiklcpacbclpnaaDoorW.PrintMore
theorem u32_nat {n : Int} (h0 : 0 ≤ n) (h1 : n < 2 ^ 32) : IntKind.u32.wrap n = n := by
  rw [IntKind.wrap_u32]; omega
theorem u32_or (i : Nat) {x y : Int} (hx0 : 0 ≤ x) (hx : x % 2 ^ i = 0) (hx1 : x < 2 ^ 32) (hy0 : 0 ≤ y) (hy : y < 2 ^ i) (hy1 : y < 2 ^ 32) : bits .or .u32 x y = x + y :=
  bits_join .u32 32 (by decide) (fun _ => u32_nat) i x y hx0 hx hx1 hy0 hy hy1
theorem u32_and15 {x : Int} (h0 : 0 ≤ x) (h1 : x < 2 ^ 32) : bits .and .u32 x 15 = x % 16 :=
  bits_mask .u32 32 (by decide) (fun _ => u32_nat) 4 (by decide) x h0 h1
theorem u16_mod (n : Int) : IntKind.u16.wrap n = n % 65536 := by simp [IntKind.wrap, IntKind.bits, IntKind.signed]
theorem i16_mod (n : Int) : IntKind.i16.wrap n = (n + 32768) % 65536 - 32768 := by
  simp [IntKind.wrap, IntKind.bits, IntKind.signed]
  split <;> omega
theorem word3 {o a b c : Int} (o0 : 0 ≤ o) (o1 : o ≤ 31) (a0 : 0 ≤ a) (a1 : a ≤ 15) (b0 : 0 ≤ b) (b1 : b ≤ 15) (c0 : 0 ≤ c) (c1 : c ≤ 15) :
    Go.bits .or .u32 (Go.bits .or .u32 (Go.bits .or .u32 (((IntKind.u32.wrap o) * 67108864) % 4294967296) (((IntKind.u32.wrap a) * 4194304) % 4294967296)) (((IntKind.u32.wrap b) * 262144) % 4294967296)) (((IntKind.u32.wrap c) * 16384) % 4294967296) = o * 67108864 + a * 4194304 + b * 262144 + c * 16384 := by
  rw [u32_nat o0 (by omega), u32_nat a0 (by omega), u32_nat b0 (by omega), u32_nat c0 (by omega)]
  rw [show (o * 67108864) % 4294967296 = o * 67108864 by omega, show (a * 4194304) % 4294967296 = a * 4194304 by omega, show (b * 262144) % 4294967296 = b * 262144 by omega, show (c * 16384) % 4294967296 = c * 16384 by omega]
  rw [u32_or 26 (x := o * 67108864) (y := a * 4194304) (by omega) (by omega) (by omega) (by omega) (by omega) (by omega)]
  rw [u32_or 22 (x := o * 67108864 + a * 4194304) (y := b * 262144) (by omega) (by omega) (by omega) (by omega) (by omega) (by omega)]
  rw [u32_or 18 (x := o * 67108864 + a * 4194304 + b * 262144) (y := c * 16384) (by omega) (by omega) (by omega) (by omega) (by omega) (by omega)]
def wrd (o a b c n : Int) : Int := o * 67108864 + a * 4194304 + b * 262144 + (if frm o = 114 then c * 16384 else n % 65536)
def encOf (o a b c n : Int) : Int × Int :=
  if frm o = 0 then (0, 16) else if bad (frm o) a b c n = true then (0, 1) else if (frm o != 114 && !fit o n) = true then (0, 2) else (wrd o a b c n, 0)
theorem frm_ne {o : Int} (h : frm o ≠ 0) : 1 ≤ o ∧ o ≤ 31 := by
  unfold frm at h
  split at h
  · exact absurd rfl h
  · omega
theorem bad_no {f a b c n : Int} (h : ¬ bad f a b c n = true) : a ≤ 15 ∧ b ≤ 15 ∧ c ≤ 15 ∧ (f = 110 → a = 0) ∧ (¬(f = 114 ∨ f = 105 ∨ f = 109) → b = 0) ∧ (f ≠ 114 → c = 0) ∧ (f = 114 → n = 0) := by
  unfold bad at h
  simp only [Bool.or_eq_true, Bool.and_eq_true, decide_eq_true_eq, beq_iff_eq, bne_iff_ne, Bool.not_eq_true', ne_eq, not_or, not_and, Bool.or_eq_false_iff, beq_eq_false_iff_ne, Decidable.not_not] at h
  obtain ⟨⟨⟨⟨⟨⟨h1, h2⟩, h3⟩, h4⟩, h5⟩, h6⟩, h7⟩ := h
  refine ⟨by omega, by omega, by omega, h4, fun g => ?_, h6, h7⟩
  exact h5 ⟨⟨fun x => g (Or.inl x), fun x => g (Or.inr (Or.inl x))⟩, fun x => g (Or.inr (Or.inr x))⟩
theorem enc_ev (o a b c n : Int) (o0 : 0 ≤ o) (o1 : o < 256) (a0 : 0 ≤ a) (b0 : 0 ≤ b) (c0 : 0 ≤ c) : Ev (fun k => isa_Enc.f k o a b c n) (encOf o a b c n) := by
  unfold encOf
  by_cases hf : frm o = 0
  · rw [if_pos hf]
    refine Ev.congr (fun k => ?_) (Ev.now _)
    unfold isa_Enc.f
    rw [form_eq o o0 o1, Option.bind_some, if_pos hf]
  · rw [if_neg hf]
    refine Ev.congr (fun k => enc_eq k o a b c n o0 o1 hf) ?_
    obtain ⟨g0, g1⟩ := frm_ne hf
    by_cases hb : bad (frm o) a b c n = true
    · rw [hb, if_pos rfl]
      exact Ev.step (f := fun _ => some (0, 1)) (fun k => by simp only [isa_Enc.j0]; rw [if_pos trivial]) (Ev.now _)
    · rw [if_neg hb]
      obtain ⟨a1, b1, c1, _, _, h6, h7⟩ := bad_no hb
      have hb' : bad (frm o) a b c n = false := by simpa using hb
      rw [hb']
      have W := word3 o0 g1 a0 a1 b0 b1 c0 c1
      by_cases hr : frm o = 114
      · have e : (frm o != 114) = false := by simp [hr]
        rw [e]
        refine Ev.step (f := fun k => isa_Enc.j1 k false false o a b c n) (fun k => by simp only [isa_Enc.j0]; rw [if_neg (by simp), if_neg (by simp)]) ?_
        refine Ev.step (f := fun _ => some (wrd o a b c n, 0)) (fun k => ?_) (by simp only [Bool.false_and]; rw [if_neg (by simp)]; exact Ev.now _)
        simp only [isa_Enc.j1]
        rw [if_neg (by simp), if_neg (by simp), W]
        unfold wrd
        rw [if_pos hr]
      · have e : (frm o != 114) = true := by simp [hr]
        rw [e]
        refine Ev.step (f := fun k => isa_Enc.j1 k true (!fit o n) o a b c n) (fun k => by simp only [isa_Enc.j0, fits_eq, Option.bind_some]; rw [if_neg (by simp), if_pos trivial]) ?_
        have c2 := h6 hr
        subst c2
        by_cases ft : fit o n = true
        · rw [ft]
          refine Ev.step (f := fun _ => some (wrd o a b 0 n, 0)) (fun k => ?_) (by rw [if_neg (by simp)]; exact Ev.now _)
          simp only [isa_Enc.j1]
          rw [if_neg (by simp), if_pos trivial, W]
          unfold wrd
          rw [if_neg hr, u16_mod, u32_nat (n := n % 65536) (by omega) (by omega), u32_or 16 (x := o * 67108864 + a * 4194304 + b * 262144 + 0 * 16384) (y := n % 65536) (by omega) (by omega) (by omega) (by omega) (by omega) (by omega)]
          simp
        · have ft' : fit o n = false := by simpa using ft
          rw [ft']
          refine Ev.step (f := fun _ => some (0, 2)) (fun k => ?_) (by rw [if_pos (by simp)]; exact Ev.now _)
          simp only [isa_Enc.j1]
          rw [if_pos (by simp)]
theorem enc_ok {o a b c n w : Int} (h : encOf o a b c n = (w, 0)) : frm o ≠ 0 ∧ ¬ bad (frm o) a b c n = true ∧ (frm o ≠ 114 → fit o n = true) ∧ w = wrd o a b c n := by
  unfold encOf at h
  by_cases hf : frm o = 0
  · rw [if_pos hf] at h; simp at h
  rw [if_neg hf] at h
  by_cases hb : bad (frm o) a b c n = true
  · rw [if_pos hb] at h; simp at h
  rw [if_neg hb] at h
  by_cases hg : (frm o != 114 && !fit o n) = true
  · rw [if_pos hg] at h; simp at h
  rw [if_neg hg] at h
  simp only [Prod.mk.injEq, and_true] at h
  refine ⟨hf, hb, fun e => ?_, h.symm⟩
  cases hx : fit o n with
  | true => rfl
  | false => exact absurd (by simp [e, hx]) hg
end Go.Proofs.YtiklcpacbclpnaaDoor.Q
end
section
set_option linter.unusedSimpArgs false
set_option linter.unusedVariables false
namespace Go.Proofs.YtiklcpacbclpnaaDoor.Q
open Go.RowKit Go.Proofs.YtiklcpacbclpnaaDoor.P Go.Proofs.YtiklcpacbclpnaaDoorW.PrintWords Go.Proofs.YtiklcpacbclpnaaDoorW.PrintLast Go.Proofs.YtiklcpacbclpnaaDoorW.PrintMore
def numOf (o w : Int) : Int := if frm o = 114 then 0 else if pl o then w % 65536 else (w + 32768) % 65536 - 32768
def cOf (o w : Int) : Int := if frm o = 114 then (w / 16384) % 16 else 0
def parts (w : Int) : Int × Int × Int × Int × Int :=
  (w / 67108864, (w / 4194304) % 16, (w / 262144) % 16, cOf (w / 67108864) w, numOf (w / 67108864) w)
def decOf (w : Int) : Int × Int × Int × Int × Int × Bool :=
  if encOf (parts w).1 (parts w).2.1 (parts w).2.2.1 (parts w).2.2.2.1 (parts w).2.2.2.2 = (w, 0) then ((parts w).1, (parts w).2.1, (parts w).2.2.1, (parts w).2.2.2.1, (parts w).2.2.2.2, true) else (0, 0, 0, 0, 0, false)
theorem dec_fin {g : Nat → Option (Int × Int)} {o a b c n w : Int} (h : Ev g (encOf o a b c n)) :
    Ev (fun k => (g k).bind fun t => if t.2 = 0 then (if t.1 = w then some (o, a, b, c, n, true) else some (0, 0, 0, 0, 0, false)) else some (0, 0, 0, 0, 0, false))
      (if encOf o a b c n = (w, 0) then (o, a, b, c, n, true) else (0, 0, 0, 0, 0, false)) := by
  refine Ev.bind h ?_
  generalize encOf o a b c n = e
  obtain ⟨x, y⟩ := e
  by_cases h1 : y = 0
  · subst h1
    by_cases h2 : x = w
    · subst h2
      exact Ev.congr (fun k => by simp) (Ev.now _)
    · exact Ev.congr (fun k => by simp [h2]) (Ev.now _)
  · exact Ev.congr (fun k => by simp [h1]) (Ev.now _)
theorem dec_all (w : Int) (w0 : 0 ≤ w) (w1 : w < 4294967296) : Ev (fun k => isa_Dec.f k w) (decOf w) := by
  have y1 : (w / 67108864) % 256 = w / 67108864 := by omega
  have y2 : (Go.bits .and .u32 (w / 4194304) 15) % 256 = (w / 4194304) % 16 := by rw [u32_and15 (by omega) (by omega)]; omega
  have y3 : (Go.bits .and .u32 (w / 262144) 15) % 256 = (w / 262144) % 16 := by rw [u32_and15 (by omega) (by omega)]; omega
  have y4 : (Go.bits .and .u32 (w / 16384) 15) % 256 = (w / 16384) % 16 := by rw [u32_and15 (by omega) (by omega)]; omega
  have y5 : wrap32 (IntKind.u16.wrap w) = w % 65536 := by rw [u16_mod]; unfold wrap32; omega
  have y6 : wrap32 (IntKind.i16.wrap w) = (w + 32768) % 65536 - 32768 := by rw [i16_mod]; unfold wrap32; omega
  unfold isa_Dec.f decOf parts
  simp only [y1, y2, y3, y4, y5, y6, form_eq (w / 67108864) (by omega) (by omega), Option.bind_some, has_eq]
  have he := fun c n (c0 : 0 ≤ c) => enc_ev (w / 67108864) ((w / 4194304) % 16) ((w / 262144) % 16) c n (by omega) (by omega) (by omega) (by omega) c0
  by_cases hr : frm (w / 67108864) = 114
  · have e1 : cOf (w / 67108864) w = (w / 16384) % 16 := by unfold cOf; rw [if_pos hr]
    have e2 : numOf (w / 67108864) w = 0 := by unfold numOf; rw [if_pos hr]
    rw [e1, e2]
    exact Ev.congr (fun k => if_pos (by simp [hr])) (dec_fin (he _ _ (by omega)))
  · have e1 : cOf (w / 67108864) w = 0 := by unfold cOf; rw [if_neg hr]
    have e2 : numOf (w / 67108864) w = if pl (w / 67108864) = true then w % 65536 else (w + 32768) % 65536 - 32768 := by unfold numOf; rw [if_neg hr]
    rw [e1, e2]
    refine Ev.congr (fun k => if_neg (by simp [hr])) (Ev.congr (fun k => if_pos (by simp [hr])) ?_)
    unfold strings_IndexByte.f pl
    simp only [Option.bind_some]
    by_cases hp : Lib.indexByte (⟨#[15, 16, 17, 19, 31]⟩ : ByteArray).data.toList (w / 67108864).toNat.toUInt8 ≥ 0
    · rw [if_pos (decide_eq_true hp)]
      exact Ev.congr (fun k => if_pos hp) (dec_fin (he _ _ (by omega)))
    · rw [decide_eq_false hp, if_neg Bool.false_ne_true]
      exact Ev.congr (fun k => if_neg hp) (dec_fin (he _ _ (by omega)))
end Go.Proofs.YtiklcpacbclpnaaDoor.Q
end
section
set_option linter.unusedVariables false
set_option linter.unusedSimpArgs false
namespace Go.Proofs.YtiklcpacbclpnaaDoor.P
open Go.RowKit Go.Proofs.YtiklcpacbclpnaaDoorW.PrintWords Go.Proofs.YtiklcpacbclpnaaDoorW.PrintLast Go.Proofs.YtiklcpacbclpnaaDoorW.PrintMore
theorem get_loop (s : ByteArray) (hs : s.size ≤ 8) : ∀ (d i : Nat) (acc : Int), i + d = s.size → ∃ r, Ev (fun k => num_Get.l0 k s acc (s.size : Int) (i : Int)) r := by
  intro d
  induction d with
  | zero =>
    intro i acc hi
    refine ⟨acc, Ev.step (f := fun _ => some acc) (fun k => ?_) (Ev.now _)⟩
    simp only [num_Get.l0]
    rw [if_neg (by omega)]
  | succ d ih =>
    intro i acc hi
    have e1 : wrap64 ((i : Int) + 1) = ((i + 1 : Nat) : Int) := by unfold wrap64; omega
    have e8 : wrap64 (8 * (i : Int)) = 8 * (i : Int) := by unfold wrap64; omega
    obtain ⟨r, hr⟩ := ih (i + 1) (Go.bits .or .u64 acc (shl .u64 (IntKind.u64.wrap (bt s (i : Int))) (8 * (i : Int)))) (by omega)
    refine ⟨r, Ev.step (fun k => ?_) hr⟩
    simp only [num_Get.l0, e1, e8]
    rw [if_pos (by omega), if_pos (by omega), if_pos (by omega), if_pos (by omega)]
theorem get_ex (s : ByteArray) : ∃ r : Int, s.size ≤ 8 → ∃ k, num_Get.f k s = some r := by
  by_cases hs : s.size ≤ 8
  · obtain ⟨r, hr⟩ := get_loop s hs s.size 0 0 (by omega)
    refine ⟨r, fun _ => ?_⟩
    obtain ⟨k, hk⟩ := hr.rounds
    refine ⟨k, ?_⟩
    unfold num_Get.f
    rw [show mn (s.size : Int) 8 = (s.size : Int) by unfold mn; split <;> omega]
    exact hk
  · exact ⟨0, fun h => absurd h hs⟩
noncomputable def getV (s : ByteArray) : Int := Classical.choose (get_ex s)
theorem getV_eq (s : ByteArray) (h : s.size ≤ 8) : ∃ k, num_Get.f k s = some (getV s) := Classical.choose_spec (get_ex s) h
end Go.Proofs.YtiklcpacbclpnaaDoor.P
end
section
set_option linter.unusedVariables false
set_option linter.unusedSimpArgs false
namespace Go.Proofs.YtiklcpacbclpnaaDoor.P
open Go.RowKit Go.Proofs.YtiklcpacbclpnaaDoorW.PrintWords Go.Proofs.YtiklcpacbclpnaaDoorW.PrintLast Go.Proofs.YtiklcpacbclpnaaDoorW.PrintMore
structure Out where
  R : List Int
  pc : Int
  l : List ByteArray
  kind : Int
  n : Int
def jmp (op a b : Int) : Bool := if op = 25 then a == b else if op = 26 then a != b else if op = 27 then decide (wrap32 a < wrap32 b) else decide (a < b)
theorem jmp_eq (op a b : Int) : cpu_jumps.f op a b = some (jmp op a b) := by
  unfold cpu_jumps.f jmp
  split
  · rfl
  · split
    · rfl
    · split <;> rfl
noncomputable def doneT (l : List ByteArray) (s : List Pg) (R : List Int) (pc op oA oB oC im : Int) : Out :=
  let R1 := R.set 0 0
  let P1 := IntKind.u32.wrap (pc + 4)
  let ra := R1.getD oA.toNat 0
  let rb := R1.getD oB.toNat 0
  let rc := R1.getD oC.toNat 0
  let iw := IntKind.u32.wrap im
  let at1 := IntKind.u32.wrap (rb + iw)
  if op ≤ 13 then ⟨(R1.set oA.toNat (rk op rb rc)).set 0 0, P1, l, 0, 0⟩
  else if op ≤ 18 then ⟨(R1.set oA.toNat (rk (alikeId op) rb iw)).set 0 0, P1, l, 0, 0⟩
  else if op = 19 then ⟨(R1.set oA.toNat (IntKind.u32.wrap (iw * 65536))).set 0 0, P1, l, 0, 0⟩
  else if op ≤ 22 then (if (cloadT getV op l s at1).2 = true then ⟨(R1.set oA.toNat (cloadT getV op l s at1).1).set 0 0, P1, l, 0, 0⟩ else ⟨R, pc, l, 2, at1⟩)
  else if op ≤ 24 then (if canStore l s at1 (if op = 24 then 1 else 4) = true then ⟨R1, P1, stored l s at1 (if op = 24 then 1 else 4) ra, 0, 0⟩ else ⟨R, pc, l, 2, at1⟩)
  else if op ≤ 28 then (if jmp op ra rb = true then ⟨R1, IntKind.u32.wrap (P1 + IntKind.u32.wrap (4 * iw)), l, 0, 0⟩ else ⟨R1, P1, l, 0, 0⟩)
  else if op = 29 then ⟨(R1.set oA.toNat P1).set 0 0, IntKind.u32.wrap (P1 + IntKind.u32.wrap (4 * iw)), l, 0, 0⟩
  else if op = 30 then ⟨(R1.set oA.toNat P1).set 0 0, at1, l, 0, 0⟩
  else ⟨R1, P1, l, 1, iw⟩
noncomputable def stepT (l : List ByteArray) (s : List Pg) (R : List Int) (pc : Int) : Out :=
  if (loadT getV l s pc 4).2 = false then ⟨R, pc, l, 2, pc⟩
  else if (Q.decOf (loadT getV l s pc 4).1).2.2.2.2.2 = false then ⟨R, pc, l, 3, (loadT getV l s pc 4).1⟩
  else doneT l s R pc (Q.decOf (loadT getV l s pc 4).1).1 (Q.decOf (loadT getV l s pc 4).1).2.1 (Q.decOf (loadT getV l s pc 4).1).2.2.1 (Q.decOf (loadT getV l s pc 4).1).2.2.2.1 (Q.decOf (loadT getV l s pc 4).1).2.2.2.2.1
theorem u32_in (x : Int) : 0 ≤ IntKind.u32.wrap x ∧ IntKind.u32.wrap x < 4294967296 := by rw [IntKind.wrap_u32]; omega
theorem getD_in {R : List Int} (h : ∀ x ∈ R, 0 ≤ x ∧ x < 4294967296) (k : Nat) : 0 ≤ R.getD k 0 ∧ R.getD k 0 < 4294967296 := by
  rw [List.getD_eq_getElem?_getD]
  cases hk : R[k]? with
  | none => simp
  | some x => exact h x (List.mem_of_getElem? hk)
theorem set_in {R : List Int} (h : ∀ x ∈ R, 0 ≤ x ∧ x < 4294967296) (k : Nat) {v : Int} (hv : 0 ≤ v ∧ v < 4294967296) : ∀ x ∈ R.set k v, 0 ≤ x ∧ x < 4294967296 := by
  intro x hx
  rcases List.mem_or_eq_of_mem_set hx with hx | hx
  · exact h x hx
  · rw [hx]; exact hv
theorem dec_in {w : Int} (w0 : 0 ≤ w) (w1 : w < 4294967296) (h : (Q.decOf w).2.2.2.2.2 = true) : (1 ≤ (Q.decOf w).1 ∧ (Q.decOf w).1 ≤ 31) ∧ (0 ≤ (Q.decOf w).2.1 ∧ (Q.decOf w).2.1 < 16) ∧ (0 ≤ (Q.decOf w).2.2.1 ∧ (Q.decOf w).2.2.1 < 16) ∧ (0 ≤ (Q.decOf w).2.2.2.1 ∧ (Q.decOf w).2.2.2.1 < 16) := by
  unfold Q.decOf at h ⊢
  split
  · rename_i he
    obtain ⟨hf, _, _, _⟩ := Q.enc_ok he
    have := Q.frm_ne hf
    refine ⟨this, ?_, ?_, ?_⟩
    · show 0 ≤ (w / 4194304) % 16 ∧ (w / 4194304) % 16 < 16
      omega
    · show 0 ≤ (w / 262144) % 16 ∧ (w / 262144) % 16 < 16
      omega
    · show 0 ≤ Q.cOf (w / 67108864) w ∧ Q.cOf (w / 67108864) w < 16
      unfold Q.cOf
      split <;> omega
  · rename_i he
    rw [if_neg he] at h
    cases h
theorem loadT_in (l : List ByteArray) (s : List Pg) (at1 sz : Int) : 0 ≤ (loadT getV l s at1 sz).1 ∧ (loadT getV l s at1 sz).1 < 4294967296 := by
  unfold loadT
  split
  · exact u32_in _
  · show (0 : Int) ≤ 0 ∧ (0 : Int) < 4294967296
    omega
theorem cloadT_in (op : Int) (l : List ByteArray) (s : List Pg) (at1 : Int) : 0 ≤ (cloadT getV op l s at1).1 ∧ (cloadT getV op l s at1).1 < 4294967296 := by
  unfold cloadT
  split
  · exact loadT_in _ _ _ _
  · split
    · show 0 ≤ _ % (4294967296 : Int) ∧ _ % (4294967296 : Int) < 4294967296
      omega
    · exact loadT_in _ _ _ _
theorem step_calls (R : List Int) (pc : Int) (A : Option Addr) (c : Nat) (l : List ByteArray) (s : List Pg) (w : World) (hR : R.length = 16) (hin : ∀ x ∈ R, 0 ≤ x ∧ x < 4294967296) (hpc : 0 ≤ pc) (hr : Kd.C Kd.string w A l.length l) (hc : l.length ≤ c) (hs : s.length = 16) (hl : l.length ≤ 100000) :
    Calls Tryd.prog 7 #[.agg (cpv R pc), .agg (spv s), .slice A l.length c] w (StepEnds w (stepT l s R pc).R (stepT l s R pc).pc l (stepT l s R pc).l (stepT l s R pc).kind (stepT l s R pc).n) := by
  have hG := fun b h => getV_eq b h
  have hlo := loadT_in l s pc 4
  unfold stepT
  by_cases h1 : (loadT getV l s pc 4).2 = false
  · rw [if_pos h1]
    exact step_fault getV hG R pc A c l s w hR hpc hr hc hs hl h1
  rw [if_neg h1]
  have hf : loadT getV l s pc 4 = ((loadT getV l s pc 4).1, true) := by
    have : (loadT getV l s pc 4).2 = true := by simpa using h1
    rw [← this]
  generalize (loadT getV l s pc 4).1 = r40 at hlo hf ⊢
  obtain ⟨kd, hkd⟩ := (Q.dec_all r40 hlo.1 hlo.2).rounds
  have hdi := dec_in hlo.1 hlo.2
  revert hkd hdi
  generalize Q.decOf r40 = d
  obtain ⟨op, oA, oB, oC, im, ok⟩ := d
  intro hkd hdi
  dsimp only at hkd hdi ⊢
  cases ok with
  | false =>
    rw [if_pos rfl]
    exact step_ill getV hG R pc A c l s w hR hpc hr hc hs hl r40 hf kd op oA oB oC im hkd
  | true =>
    rw [if_neg (by decide)]
    obtain ⟨ho, hA, hB, hC⟩ := hdi rfl
    have h1in := set_in hin 0 (show (0 : Int) ≤ 0 ∧ (0 : Int) < 4294967296 by omega)
    have ha := getD_in h1in oA.toNat
    have hb := getD_in h1in oB.toNat
    have hc' := getD_in h1in oC.toNat
    have hi := u32_in im
    have hat := u32_in ((R.set 0 0).getD oB.toNat 0 + IntKind.u32.wrap im)
    unfold doneT
    dsimp only
    by_cases c13 : op ≤ 13
    · rw [if_pos c13]
      exact step_three getV hG R pc A c l s w hR hpc hr hc hs hl r40 hf kd op oA oB oC im hkd hA hB _ _ _ _ _ rfl rfl rfl rfl rfl hC _ _ rfl (decide_eq_true c13) (rk_calls op _ _ hb.1 hb.2 hc'.1 hc'.2).2
    rw [if_neg c13]
    by_cases c18 : op ≤ 18
    · rw [if_pos c18]
      exact step_number getV hG R pc A c l s w hR hpc hr hc hs hl r40 hf kd op oA oB oC im hkd hA hB _ _ _ _ _ rfl rfl rfl rfl rfl ⟨by omega, c18⟩ _ (decide_eq_false c13) (decide_eq_true c18) (rk_calls (alikeId op) _ _ hb.1 hb.2 hi.1 hi.2).2
    rw [if_neg c18]
    by_cases c19 : op = 19
    · rw [if_pos c19]
      exact step_lui getV hG R pc A c l s w hR hpc hr hc hs hl r40 hf kd op oA oB oC im hkd hA hB _ _ _ _ _ rfl rfl rfl rfl rfl (decide_eq_false c13) (decide_eq_false c18) (beq_iff_eq.2 c19) _ rfl
    rw [if_neg c19]
    have e19 : (op == 19) = false := beq_eq_false_iff_ne.2 c19
    by_cases c22 : op ≤ 22
    · rw [if_pos c22]
      by_cases hq : (cloadT getV op l s (IntKind.u32.wrap ((R.set 0 0).getD oB.toNat 0 + IntKind.u32.wrap im))).2 = true
      · rw [if_pos hq]
        exact step_load getV hG R pc A c l s w hR hpc hr hc hs hl r40 hf kd op oA oB oC im hkd hA hB _ _ _ _ _ rfl rfl rfl rfl rfl hat.1 _ (by rw [← hq]) (decide_eq_false c13) (decide_eq_false c18) e19 (decide_eq_true c22)
      · rw [if_neg hq]
        exact step_noload getV hG R pc A c l s w hR hpc hr hc hs hl r40 hf kd op oA oB oC im hkd hA hB _ _ _ _ _ rfl rfl rfl rfl rfl hat.1 (cloadT getV op l s (IntKind.u32.wrap ((R.set 0 0).getD oB.toNat 0 + IntKind.u32.wrap im))).1 (Prod.ext rfl (by simpa using hq)) (decide_eq_false c13) (decide_eq_false c18) e19 (decide_eq_true c22)
    rw [if_neg c22]
    by_cases c24 : op ≤ 24
    · rw [if_pos c24]
      by_cases d24 : op = 24
      · rw [if_pos d24]
        by_cases hq : canStore l s (IntKind.u32.wrap ((R.set 0 0).getD oB.toNat 0 + IntKind.u32.wrap im)) 1 = true
        · rw [if_pos hq]
          exact step_sb_yes getV hG R pc A c l s w hR hpc hr hc hs hl r40 hf kd op oA oB oC im hkd hA hB _ _ _ _ _ rfl rfl rfl rfl rfl hat.1 ha.1 ha.2 hq (decide_eq_false c13) (decide_eq_false c18) e19 (decide_eq_false c22) (decide_eq_true c24) (beq_iff_eq.2 d24)
        · rw [if_neg hq]
          exact step_sb_no getV hG R pc A c l s w hR hpc hr hc hs hl r40 hf kd op oA oB oC im hkd hA hB _ _ _ _ _ rfl rfl rfl rfl rfl hat.1 ha.1 ha.2 (by simpa using hq) (decide_eq_false c13) (decide_eq_false c18) e19 (decide_eq_false c22) (decide_eq_true c24) (beq_iff_eq.2 d24)
      · rw [if_neg d24]
        by_cases hq : canStore l s (IntKind.u32.wrap ((R.set 0 0).getD oB.toNat 0 + IntKind.u32.wrap im)) 4 = true
        · rw [if_pos hq]
          exact step_sw_yes getV hG R pc A c l s w hR hpc hr hc hs hl r40 hf kd op oA oB oC im hkd hA hB _ _ _ _ _ rfl rfl rfl rfl rfl hat.1 ha.1 ha.2 hq (decide_eq_false c13) (decide_eq_false c18) e19 (decide_eq_false c22) (decide_eq_true c24) (beq_eq_false_iff_ne.2 d24)
        · rw [if_neg hq]
          exact step_sw_no getV hG R pc A c l s w hR hpc hr hc hs hl r40 hf kd op oA oB oC im hkd hA hB _ _ _ _ _ rfl rfl rfl rfl rfl hat.1 ha.1 ha.2 (by simpa using hq) (decide_eq_false c13) (decide_eq_false c18) e19 (decide_eq_false c22) (decide_eq_true c24) (beq_eq_false_iff_ne.2 d24)
    rw [if_neg c24]
    by_cases c28 : op ≤ 28
    · rw [if_pos c28]
      by_cases hq : jmp op ((R.set 0 0).getD oA.toNat 0) ((R.set 0 0).getD oB.toNat 0) = true
      · rw [if_pos hq]
        exact step_branch_true getV hG R pc A c l s w hR hpc hr hc hs hl r40 hf kd op oA oB oC im hkd hA hB _ _ _ _ _ rfl rfl rfl rfl rfl (by rw [jmp_eq, hq]) _ _ rfl rfl (decide_eq_false c13) (decide_eq_false c18) e19 (decide_eq_false c22) (decide_eq_false c24) (decide_eq_true c28)
      · rw [if_neg hq]
        exact step_branch_false getV hG R pc A c l s w hR hpc hr hc hs hl r40 hf kd op oA oB oC im hkd hA hB _ _ _ _ _ rfl rfl rfl rfl rfl (by rw [jmp_eq, (by simpa using hq : jmp op _ _ = false)]) (decide_eq_false c13) (decide_eq_false c18) e19 (decide_eq_false c22) (decide_eq_false c24) (decide_eq_true c28)
    rw [if_neg c28]
    by_cases c29 : op = 29
    · rw [if_pos c29]
      exact step_jal getV hG R pc A c l s w hR hpc hr hc hs hl r40 hf kd op oA oB oC im hkd hA hB _ _ _ _ _ rfl rfl rfl rfl rfl _ _ rfl rfl (decide_eq_false c13) (decide_eq_false c18) e19 (decide_eq_false c22) (decide_eq_false c24) (decide_eq_false c28) (beq_iff_eq.2 c29)
    rw [if_neg c29]
    have e29 : (op == 29) = false := beq_eq_false_iff_ne.2 c29
    by_cases c30 : op = 30
    · rw [if_pos c30]
      exact step_jalr getV hG R pc A c l s w hR hpc hr hc hs hl r40 hf kd op oA oB oC im hkd hA hB _ _ _ _ _ rfl rfl rfl rfl rfl (decide_eq_false c13) (decide_eq_false c18) e19 (decide_eq_false c22) (decide_eq_false c24) (decide_eq_false c28) e29 (beq_iff_eq.2 c30)
    rw [if_neg c30]
    exact step_sys getV hG R pc A c l s w hR hpc hr hc hs hl r40 hf kd op oA oB oC im hkd hA hB _ _ _ _ _ rfl rfl rfl rfl rfl (decide_eq_false c13) (decide_eq_false c18) e19 (decide_eq_false c22) (decide_eq_false c24) (decide_eq_false c28) e29 (beq_eq_false_iff_ne.2 c30)
end Go.Proofs.YtiklcpacbclpnaaDoor.P
end
section
set_option linter.unusedVariables false
namespace Go.Proofs.YtiklcpacbclpnaaDoorW.PrintLast
open Go.RowKit Go.Proofs.YtiklcpacbclpnaaDoorW.PrintWords
structure StK (B : Nat) (w0 w : World) (bs : List Blk) (K : Nat → Prop) (wK : World) : Prop where
  st : St B w0 w bs
  held : ∀ k, K k → k < w.heap.size ∧ w.heap[k]? = wK.heap[k]?
  far : ∀ x ∈ bs, ∀ g, x.1 = some g → ¬ K g
namespace StK
variable {P : Program} {B : Nat} {w0 w wK : World} {bs bs' : List Blk} {K : Nat → Prop} {g : Nat} {cs : Array Value} {t : TypeId}
theorem out (h : StK B w0 w bs K wK) : St B w0 w bs := h.st
theorem drew (h : StK B w0 w bs K wK) : StK B w0 w.drew bs K wK := ⟨h.st.drew, h.held, h.far⟩
theorem drewN (h : StK B w0 w bs K wK) (n : Nat) : StK B w0 (w.drewN n) bs K wK := ⟨h.st.drewN n, h.held, h.far⟩
theorem alloc (h : StK B w0 w bs K wK) (cs : Array Value) (t : TypeId) : StK B w0 (w.alloc (.cells cs t (0, 0))) ((some w.heap.size, cs, t) :: bs) K wK := by
  refine ⟨h.st.alloc cs t, fun k hk => ⟨by have := (h.held k hk).1; simp; omega, (Below.heap_alloc w _ k (h.held k hk).1).trans (h.held k hk).2⟩, fun x hx g hg hK => ?_⟩
  rcases List.mem_cons.1 hx with rfl | hx
  · injection hg with hg
    have := (h.held g hK).1
    omega
  · exact h.far x hx g hg hK
theorem later {w1 : World} (h : StK B w0 w bs K wK) (hb : Below w.heap.size w w1) : StK B w0 w1 bs K wK :=
  ⟨h.st.later hb, fun k hk => ⟨Nat.lt_of_lt_of_le (h.held k hk).1 hb.size, (hb.block k (h.held k hk).1).trans (h.held k hk).2⟩, h.far⟩
theorem grown {w1 : World} {row : Option Nat} (h : StK B w0 w bs K wK) (hg : w.grownBy w1 row) (hr : ∀ k, row = some k → B ≤ k ∧ (∀ x ∈ bs, x.1 ≠ some k) ∧ ¬ K k) : StK B w0 w1 bs K wK :=
  ⟨h.st.grown hg (fun k hk => ⟨(hr k hk).1, (hr k hk).2.1⟩), fun k hk => ⟨Nat.lt_of_lt_of_le (h.held k hk).1 hg.size, (hg.block k (h.held k hk).1 (fun e => (hr k e.symm).2.2 hk)).trans (h.held k hk).2⟩, h.far⟩
theorem add (h : StK B w0 w bs K wK) (og : Option Nat) (cs : Array Value) (t : TypeId) (hg : ∀ g, og = some g → B ≤ g ∧ w.heap[g]? = some (.cells cs t (0, 0)) ∧ (∀ x ∈ bs, x.1 ≠ some g) ∧ ¬ K g) : StK B w0 w ((og, cs, t) :: bs) K wK :=
  ⟨h.st.add og cs t (fun g h' => ⟨(hg g h').1, (hg g h').2.1, (hg g h').2.2.1⟩), h.held, fun x hx g hxg hK => by
    rcases List.mem_cons.1 hx with rfl | hx
    · exact (hg g hxg).2.2.2 hK
    · exact h.far x hx g hxg hK⟩
theorem cell (h : StK B w0 w bs K wK) {n : Nat} (hn : bs[n]? = some (some g, cs, t)) (k : Nat) : w.cell? ⟨g, k, none⟩ = cs[k]? := h.st.cell hn k
theorem blk (h : StK B w0 w bs K wK) {n : Nat} (hn : bs[n]? = some (some g, cs, t)) : w.heap[g]? = some (.cells cs t (0, 0)) := h.st.blk hn
theorem setRow (h : StK B w0 w bs K wK) (n : Nat) (hn : bs[n]? = some (some g, cs, t)) (cs' : Array Value) : StK B w0 (w.setRow g cs') (bs.set n (some g, cs', t)) K wK := by
  have hg := h.far _ (St.mem hn) g rfl
  refine ⟨h.st.setRow n hn cs', fun k hk => ⟨by simpa using (h.held k hk).1, ?_⟩, fun x hx gx hgx => ?_⟩
  · rw [setRow_other w g k cs' (fun e => hg (e ▸ hk))]
    exact (h.held k hk).2
  · rcases List.mem_or_eq_of_mem_set hx with hx | hx
    · exact h.far x hx gx hgx
    · subst hx
      injection hgx with hgx
      subst hgx
      exact hg
theorem setCell (h : StK B w0 w bs K wK) (n : Nat) (hn : bs[n]? = some (some g, cs, t)) (k : Nat) (v : Value) : StK B w0 (w.setCell ⟨g, k, none⟩ v) (bs.set n (some g, cs.setIfInBounds k v, t)) K wK := by
  rw [setCell_eq_setRow w g k cs t _ v (h.blk hn)]
  exact h.setRow n hn _
theorem sub (h : StK B w0 w bs K wK) (hs : List.Sublist bs' bs) : StK B w0 w bs' K wK := ⟨h.st.sub hs, h.held, fun x hx => h.far x (hs.subset hx)⟩
theorem perm (h : StK B w0 w bs K wK) (hp : bs.Perm bs') : StK B w0 w bs' K wK := ⟨h.st.perm hp, h.held, fun x hx => h.far x (hp.mem_iff.2 hx)⟩
theorem now (h : StK B w0 w bs K wK) : StK B w0 w bs K w := ⟨h.st, fun k hk => ⟨(h.held k hk).1, rfl⟩, h.far⟩
theorem of_st (h : St B w0 w bs) : StK B w0 w bs (fun _ => False) w := ⟨h, fun _ hk => hk.elim, fun _ _ _ _ hk => hk⟩
end StK
section
variable {P : Program} {ops : Array Oper} {rest : List Oper} {o : Oper} {a af : Act} {Q : Exit → Act → World → Prop} {B : Nat} {w0 w wK : World} {bs : List Blk} {K : Nat → Prop} {g k : Nat} {cs cs' : Array Value} {t T : TypeId} {v : Value} {x y : Operand} {R : World → Prop}
theorem xl_boxK (h : StK B w0 w bs K wK) (hgd : o.guard = none) (N : Tmp) (hN : o.dst = some N) (cs : Array Value) (t : TypeId)
    (hrun : (execOp a.eval o).run P w = .ok (.value (.pointer (some ⟨w.heap.size, 0, none⟩))) (w.alloc (.cells cs t (0, 0))))
    (KK : ∀ g w1, StK B w0 w1 ((some g, cs, t) :: bs) K wK → wpList P ops Q rest (a.put (some N) (.pointer (some ⟨g, 0, none⟩))) w1) : wpList P ops Q (o :: rest) a w := by
  rw [← hN] at KK
  exact Kd.event_run hgd hrun (KK _ _ (h.alloc cs t))
theorem xl_loadK (h : StK B w0 w bs K wK) (n g : Nat) (cs : Array Value) (t : TypeId) (hn : bs[n]? = some (some g, cs, t)) (hgd : o.guard = none) (T : TypeId) (x : Operand) (ho : o.op = .load T x) (k : Nat) (hx : a.eval x = .pointer (some ⟨g, k, none⟩)) (hT : scalarB P T = true) (v : Value) (hv : cs[k]? = some v)
    (KK : wpList P ops Q rest (a.put o.dst v) w) : wpList P ops Q (o :: rest) a w := by
  refine Kd.event_run (v := v) hgd ?_ KK
  unfold execOp
  simp only [ho, hx, Sem.run_bind, run_load_st h.st hn hT hv, Result.andThen_ok]
  rfl
theorem xl_loadRowK (h : StK B w0 w bs K wK) (n g : Nat) (cs : Array Value) (t : TypeId) (hn : bs[n]? = some (some g, cs, t)) (hgd : o.guard = none) (T : TypeId) (x : Operand) (ho : o.op = .load T x) (hx : a.eval x = .pointer (some ⟨g, 0, none⟩)) (hT : rowB P T = true) (hi : (P.info? T).map (·.size) = some cs.size)
    (KK : wpList P ops Q rest (a.put o.dst (.agg cs)) w) : wpList P ops Q (o :: rest) a w := by
  refine Kd.event_run (v := .agg cs) hgd ?_ KK
  unfold execOp
  simp only [ho, hx, Sem.run_bind, run_loadRow_st h.st hn hT hi, Result.andThen_ok]
  rfl
theorem run_skip_ofK {w1 : World} {T : TypeId} {x y : Operand} {o : Oper} (ho : o.op = .store T x y) (h : (Instr.storeAt T (a.eval x) (a.eval y)).run P w = .ok () w1) : (execOp a.eval o).run P w = .ok .skip w1 := by
  unfold execOp
  simp only [ho, Sem.run_bind, h, Result.andThen_ok]
  rfl
theorem xl_storeK (h : StK B w0 w bs K wK) (n g : Nat) (cs : Array Value) (t : TypeId) (hn : bs[n]? = some (some g, cs, t)) (hgd : o.guard = none) (hN : o.dst = none) (T : TypeId) (x y : Operand) (ho : o.op = .store T x y) (k : Nat) (hx : a.eval x = .pointer (some ⟨g, k, none⟩)) (v : Value) (hy : a.eval y = v)
    (hi : (P.info? T).map (·.size) = some 1) (h1 : v.oneCell' = true) (hk : k < cs.size)
    (KK : ∀ w1, StK B w0 w1 (bs.set n (some g, cs.setIfInBounds k v, t)) K wK → wpList P ops Q rest a w1) : wpList P ops Q (o :: rest) a w := by
  refine wpList_plain hgd fun K' hK => ?_
  unfold Oper.wp
  rw [run_skip_ofK ho (by rw [hx, hy]; exact run_store_st h.st hn hi h1 hk)]
  show K' (a.put o.dst undef) _
  rw [hN]
  exact hK _ _ (KK _ (h.setCell n hn k v))
theorem xl_storeRowK (h : StK B w0 w bs K wK) (n g : Nat) (cs : Array Value) (t : TypeId) (hn : bs[n]? = some (some g, cs, t)) (hgd : o.guard = none) (hN : o.dst = none) (T : TypeId) (x y : Operand) (ho : o.op = .store T x y) (hx : a.eval x = .pointer (some ⟨g, 0, none⟩)) (cs' : Array Value) (hy : a.eval y = .agg cs')
    (hi : (P.info? T).map (·.size) = some cs'.size) (hs : cs.size = cs'.size) (h1 : cs'.all (·.oneCell') = true)
    (KK : ∀ w1, StK B w0 w1 (bs.set n (some g, cs', t)) K wK → wpList P ops Q rest a w1) : wpList P ops Q (o :: rest) a w := by
  refine wpList_plain hgd fun K' hK => ?_
  unfold Oper.wp
  rw [run_skip_ofK ho (by rw [hx, hy]; exact run_storeRow_st h.st hn hi hs h1)]
  show K' (a.put o.dst undef) _
  rw [hN]
  exact hK _ _ (KK _ (h.setRow n hn cs'))
theorem may_loadRowK (h : StK B w0 w bs K wK) (n g : Nat) (cs : Array Value) (t : TypeId) (hn : bs[n]? = some (some g, cs, t)) (hgd : o.guard = none) (T : TypeId) (x : Operand) (ho : o.op = .load T x) (hx : af.eval x = .pointer (some ⟨g, 0, none⟩)) (hT : rowB P T = true) (hi : (P.info? T).map (·.size) = some cs.size)
    (hd : ∀ d, o.dst = some d → af.eval (.tmp d) = .agg cs) (KK : R w) : OpMay P ops o af Q w R := by
  refine may_value (v := .agg cs) hgd ?_ hd KK
  unfold execOp
  simp only [ho, hx, Sem.run_bind, run_loadRow_st h.st hn hT hi, Result.andThen_ok]
  rfl
theorem may_storeRowK (h : StK B w0 w bs K wK) (n g : Nat) (cs : Array Value) (t : TypeId) (hn : bs[n]? = some (some g, cs, t)) (hgd : o.guard = none) (hN : o.dst = none) (T : TypeId) (x y : Operand) (ho : o.op = .store T x y) (hx : af.eval x = .pointer (some ⟨g, 0, none⟩)) (cs' : Array Value) (hy : af.eval y = .agg cs')
    (hi : (P.info? T).map (·.size) = some cs'.size) (hs : cs.size = cs'.size) (h1 : cs'.all (·.oneCell') = true)
    (KK : ∀ w1, StK B w0 w1 (bs.set n (some g, cs', t)) K wK → R w1) : OpMay P ops o af Q w R :=
  may_skip hgd hN (run_skip_ofK ho (by rw [hx, hy]; exact run_storeRow_st h.st hn hi hs h1)) (KK _ (h.setRow n hn cs'))
end
end Go.Proofs.YtiklcpacbclpnaaDoorW.PrintLast
end
section
set_option linter.unusedVariables false
set_option linter.unusedSimpArgs false
namespace Go.Proofs.YtiklcpacbclpnaaDoor.P
open Go.RowKit Go.Proofs.YtiklcpacbclpnaaDoorW.PrintWords Go.Proofs.YtiklcpacbclpnaaDoorW.PrintLast Go.Proofs.YtiklcpacbclpnaaDoorW.PrintMore
attribute [local go_sem] isSome_setCell_eq
theorem R_only {e : Nat} {w : World} {base : Nat} {ok : Nat → Prop} {v : Value} {l : List ByteArray} (h : Kd.R Kd.string e w base ok v l) : Kd.R Kd.string e w base (fun k => v.ownBlock = some k) v l := Kd.R_of_own (Kd.own_of_R h) (fun _ hk => hk)
theorem R_held {e : Nat} {w w2 : World} {base : Nat} {v : Value} {l : List ByteArray} (h : Kd.R Kd.string e w base (fun k => v.ownBlock = some k) v l) (hk : ∀ g, v.ownBlock = some g → w2.heap[g]? = w.heap[g]?) : Kd.R Kd.string e w2 base (fun k => v.ownBlock = some k) v l := Kd.R_step h (fun k h1 _ => hk k h1)
theorem own_lt {e : Nat} {w : World} {base : Nat} {ok : Nat → Prop} {v : Value} {l : List ByteArray} (h : Kd.R Kd.string e w base ok v l) {g : Nat} (hg : v.ownBlock = some g) : base ≤ g ∧ g < w.heap.size := by
  obtain ⟨_, hc⟩ := Kd.own_of_R h
  rcases hc with ⟨rfl, _⟩ | ⟨g', cap, cur, rfl, hb, hcell, _⟩
  · cases hg
  · injection hg with hg
    subst hg
    exact ⟨hb, blk_lt hcell⟩
theorem R_form {e : Nat} {w : World} {base : Nat} {ok : Nat → Prop} {v : Value} {l : List ByteArray} (h : Kd.R Kd.string e w base ok v l) : ∃ A c, v = .slice A l.length c ∧ l.length ≤ c ∧ Kd.C Kd.string w A l.length l := Kd.R_reads h
theorem stk_kept {B : Nat} {w0 w w1 wK : World} {bs : List Blk} {K : Nat → Prop} (h : StK B w0 w bs K wK) (hk : Kept w w1 K) (hb : Below B w0 w1) : StK B w0 w1 bs (fun _ => False) w1 :=
  ⟨⟨Nat.le_trans h.st.low hk.1, hb, fun x hx g hg => ⟨(h.st.own x hx g hg).1, (hk.2 g (h.st.lt hx hg) (h.far x hx g hg)).trans (h.st.own x hx g hg).2⟩, h.st.apart⟩, fun _ hf => hf.elim, fun _ _ _ _ hf => hf⟩
theorem stk_hold {B : Nat} {w0 w wK : World} {bs : List Blk} {K0 K : Nat → Prop} (h : StK B w0 w bs K0 wK) (hk : ∀ k, K k → k < w.heap.size ∧ ∀ x ∈ bs, x.1 ≠ some k) : StK B w0 w bs K w :=
  ⟨h.st, fun k hK => ⟨(hk k hK).1, rfl⟩, fun x hx g hg hK => (hk g hK).2 x hx hg⟩
def LayIn (w0 w : World) (go gd : Nat) (vo : Value) (d : ByteArray) (l : List ByteArray) (rest : List Blk) : Prop :=
  StK w0.heap.size w0 w ((some go, #[vo], 30) :: (some gd, #[.string d], 9) :: rest) (fun k => vo.ownBlock = some k) w ∧ Kd.R Kd.string 9 w w0.heap.size (fun k => vo.ownBlock = some k) vo l
theorem lay_later {w0 w w1 : World} {go gd : Nat} {vo : Value} {d : ByteArray} {l : List ByteArray} {rest : List Blk} (h : LayIn w0 w go gd vo d l rest) (hb : Below w.heap.size w w1) : LayIn w0 w1 go gd vo d l rest :=
  ⟨(h.1.later hb).now, Kd.R_below h.2 hb⟩
theorem lay_drew {w0 w : World} {go gd : Nat} {vo : Value} {d : ByteArray} {l : List ByteArray} {rest : List Blk} (h : LayIn w0 w go gd vo d l rest) : LayIn w0 w.drew go gd vo d l rest := lay_later h ⟨rfl, rfl, rfl, Nat.le_refl _, fun _ _ => rfl⟩
theorem lay_kept {w0 w w1 : World} {go gd : Nat} {vo : Value} {d : ByteArray} {l r : List ByteArray} {rest : List Blk} (h : LayIn w0 w go gd vo d l rest) {ok : Nat → Prop} (hr : Kd.R Kd.string 9 w1 w0.heap.size ok vo r) (hb : Below w0.heap.size w0 w1) (hk : Kept w w1 (fun k => vo.ownBlock = some k)) : LayIn w0 w1 go gd vo d r rest :=
  ⟨stk_hold (stk_kept h.1 hk hb) (fun k hv => ⟨(own_lt hr hv).2, fun x hx e => h.1.far x hx k e hv⟩), R_only hr⟩
set_option maxRecDepth 100000 in
theorem slice9 (d : ByteArray) (a b : Int) (h0 : 0 ≤ a) (h1 : a ≤ b) (h2 : b ≤ d.size) (w : World) : (Instr.sliceAt 9 (.string d) (some (.int .i64 a)) (some (.int .i64 b)) none).run Tryd.prog w = .ok (.string (d.extract a.toNat b.toNat)) w := run_slice_string w 9 d .i64 .i64 a b (by kernel_rfl) h0 h1 h2
set_option maxHeartbeats 8000000 in
set_option maxRecDepth 100000 in
theorem lay1_calls (w0 w : World) (go gd : Nat) (vo : Value) (d : ByteArray) (l r : List ByteArray) (rest : List Blk) (f k a b : Int) (h : LayIn w0 w go gd vo d l rest) (a0 : 0 ≤ a) (ab : a ≤ b) (bd : b ≤ d.size) (hy : mmu_lay.f l f k (d.extract a.toNat b.toNat) = some r) :
    Calls Tryd.prog 26 #[.int .i64 f, .int .i64 k, .int .i64 a, .int .i64 b, .pointer (some ⟨go, 0, none⟩), .pointer (some ⟨gd, 0, none⟩)] w fun e w' => e = .returned (.tuple #[]) ∧ LayIn w0 w' go gd vo d r rest := by
  have HY := Aside0.mk hy
  have HI := Aside0.mk h
  have HAB := Aside0.mk (And.intro a0 (And.intro ab bd))
  clear hy h a0 ab bd
  go_enter Tryd.func26, Tryd.ntmps26
  refine region_det [(10, vo), (11, .int .i64 f), (12, .int .i64 k), (13, .string d), (14, .int .i64 a), (15, .int .i64 b), (16, .string (d.extract a.toNat b.toNat)), (17, .tuple #[])] (fun b_ w' => LayIn w0 w' go gd vo d (bif b_ 7 then r else l) rest) (by kernel_rfl) (by kernel_rfl) (by kernel_rfl) (by kernel_rfl) (lay_drew HI.out) (fun af E => ⟨?_, ?_, ?_, ?_, ?_, ?_, ?_, ?_, trivial⟩) ?_
  · exact fun b w' _ _ h => may_load h.1.st 0 go #[vo] 30 rfl rfl 30 (.tmp 4) rfl 0 (by rw [E]; rfl) (by kernel_rfl) vo rfl (fun d hd => by cases hd; rw [E]; rfl) h
  · exact fun b w' _ _ h => may_move rfl _ (by first | exact .inl rfl | exact .inr rfl) (.int .i64 f) (by rw [E]; rfl) (fun d hd => by cases hd; rw [E]; rfl) h
  · exact fun b w' _ _ h => may_move rfl _ (by first | exact .inl rfl | exact .inr rfl) (.int .i64 k) (by rw [E]; rfl) (fun d hd => by cases hd; rw [E]; rfl) h
  · exact fun b w' _ _ h => may_load h.1.st 1 gd #[.string d] 9 rfl rfl 9 (.tmp 5) rfl 0 (by rw [E]; rfl) (by kernel_rfl) (.string d) rfl (fun d hd => by cases hd; rw [E]; rfl) h
  · exact fun b w' _ _ h => may_move rfl _ (by first | exact .inl rfl | exact .inr rfl) (.int .i64 a) (by rw [E]; rfl) (fun d hd => by cases hd; rw [E]; rfl) h
  · exact fun b_ w' _ _ h => may_move rfl _ (by first | exact .inl rfl | exact .inr rfl) (.int .i64 b) (by rw [E]; rfl) (fun d hd => by cases hd; rw [E]; rfl) h
  · exact fun b_ w' _ _ h => may_slice rfl 9 (.tmp 13) (some (.tmp 14)) (some (.tmp 15)) none rfl (.string d) (some (.int .i64 a)) (some (.int .i64 b)) none (by rw [E]; rfl) (by rw [E]; rfl) (by rw [E]; rfl) rfl (.string (d.extract a.toNat b.toNat)) (fun w => slice9 d a b HAB.out.1 HAB.out.2.1 HAB.out.2.2 w) (fun d hd => by cases hd; rw [E]; rfl) h
  · intro b_ w' hb_ hn_ h
    rw [hb_] at h
    exact may_goes rfl 27 _ Tryd.func27 (by kernel_rfl) rfl _ _ rfl #[vo, .int .i64 f, .int .i64 k, .string (d.extract a.toNat b.toNat)] (by rw [E]; (try simp only [List.map_toArray, List.map_cons, List.map_nil]); rfl) (.tuple #[]) (fun d hd => by cases hd; rw [E]; rfl)
      ((mmu_lay.calls (fun k => vo.ownBlock = some k) vo l f k (d.extract a.toNat b.toNat) r w0 w' h.1.st.below h.2 HY.out).mono (fun e w2 he => ⟨he.1, lay_kept h he.2.1 he.2.2.1 he.2.2.2⟩))
  intro b_ w_ hall h
  rw [hall 7 (by decide)] at h
  simp only [cond_true] at h
  simp only [puts]
  have HF := Aside0.mk h
  clear h
  go_wp2
  refine bodyPost_end (v := .tuple #[]) (results_list (rs := []) (vs := []) rfl (by simp) .nil) rfl ?_
  exact ⟨rfl, HF.out⟩
end Go.Proofs.YtiklcpacbclpnaaDoor.P
end
section
set_option linter.unusedVariables false
set_option linter.unusedSimpArgs false
namespace Go.Proofs.YtiklcpacbclpnaaDoor.P
open Go.RowKit Go.Proofs.YtiklcpacbclpnaaDoorW.PrintWords Go.Proofs.YtiklcpacbclpnaaDoorW.PrintLast Go.Proofs.YtiklcpacbclpnaaDoorW.PrintMore
attribute [local go_sem] isSome_setCell_eq
theorem lay_drewN {w0 w : World} {go gd : Nat} {vo : Value} {d : ByteArray} {l : List ByteArray} {rest : List Blk} (h : LayIn w0 w go gd vo d l rest) (n : Nat) : LayIn w0 (w.drewN n) go gd vo d l rest := lay_later h ⟨rfl, rfl, rfl, Nat.le_refl _, fun _ _ => rfl⟩
theorem lay_C {w0 w : World} {go gd : Nat} {A : Option Addr} {n c : Nat} {d : ByteArray} {l : List ByteArray} {rest : List Blk} (h : LayIn w0 w go gd (.slice A n c) d l rest) : Kd.C Kd.string w A l.length l := (Kd.R_reads' h.2).2.2
section
variable {ops : Array Oper} {rs : List Oper} {o : Oper} {a : Act} {Q : Exit → Act → World → Prop}
theorem lay_box {w0 w : World} {go gd : Nat} {vo : Value} {d : ByteArray} {l : List ByteArray} {rest : List Blk} (h : LayIn w0 w go gd vo d l rest) (hgd : o.guard = none) (N : Tmp) (hN : o.dst = some N) (cs : Array Value) (t : TypeId)
    (hrun : (execOp a.eval o).run Tryd.prog w = .ok (.value (.pointer (some ⟨w.heap.size, 0, none⟩))) (w.alloc (.cells cs t (0, 0))))
    (KK : ∀ g w1, LayIn w0 w1 go gd vo d l ((some g, cs, t) :: rest) → wpList Tryd.prog ops Q rs (a.put (some N) (.pointer (some ⟨g, 0, none⟩))) w1) : wpList Tryd.prog ops Q (o :: rs) a w := by
  rw [← hN] at KK
  exact Kd.event_run hgd hrun (KK _ _ ⟨((h.1.alloc cs t).perm (List.perm_middle (l₁ := [(some go, #[vo], 30), (some gd, #[.string d], 9)])).symm).now, Kd.R_below h.2 (below_alloc (Below.refl _ _) _)⟩)
end
def WalkRel (w0 : World) (go gd : Nat) (vo : Value) (d : ByteArray) (l r : List ByteArray) (rest : List Blk) (i : Value) (w : World) : Prop :=
  (i = .int .i64 0 ∧ LayIn w0 w go gd vo d l rest) ∨ (i = .int .i64 4 ∧ LayIn w0 w go gd vo d r rest)
set_option maxHeartbeats 8000000 in
set_option maxRecDepth 100000 in
theorem walk_calls (w0 w : World) (go gd : Nat) (A : Option Addr) (c : Nat) (d : ByteArray) (l r : List ByteArray) (rest : List Blk) (s : List Pg) (f : Int) (h : LayIn w0 w go gd (.slice A l.length c) d l rest) (hc : l.length ≤ c) (hs : s.length = 16) (hd : d.size = 4) (hf : findT s 0 1 true = (f, 0, true)) (ht : thereB l f = true) (hy : mmu_lay.f l f 0 (d.extract (0 : Int).toNat (4 : Int).toNat) = some r) :
    Calls Tryd.prog 25 #[.slice A l.length c, .agg (spv s), .int .u32 0, .int .i64 4, .bool true, .func (.func 26) #[] #[(.pointer (some ⟨go, 0, none⟩)), (.pointer (some ⟨gd, 0, none⟩))]] w fun e w' => e = .returned (.bool true) ∧ ∃ gs, LayIn w0 w' go gd (.slice A l.length c) d r ((some gs, spv s, 29) :: rest) := by
  have HY := Aside0.mk hy
  have HI := Aside0.mk h
  have HC := Aside0.mk hc
  have HD := Aside0.mk hd
  have HTH : Aside0 (mmu_there.f l f = some true) := ⟨by rw [there_eq, ht]⟩
  have F := fun w => find_calls s 0 1 true w hs (by decide) (Or.inl rfl)
  rw [hf] at F
  dsimp only at F
  have FA := Aside0.mk F
  clear F hy h hc hd hf ht
  go_enter Tryd.func25, Tryd.ntmps25
  go_wp2_with (first | ((with_reducible refine gate_dst (N := 7) rfl ?_); refine lay_box HI.out rfl 7 rfl (spv s) 29 ?hr ?_; (case hr => first | (go_simp; done) | (go_simp; rfl)); intro gs w_ hi_; clear HI; have HI := Aside0.mk hi_; clear hi_))
  go_loopw [13] (fun i wr => WalkRel w0 go gd (.slice A l.length c) d l r ((some gs, spv s, 29) :: rest) i wr) (fun i _ => 4 - (intOf i).toNat)
  case atStart => exact .inl ⟨rfl, HI.out⟩
  case round =>
    clear HI
    rcases hrel with ⟨rfl, hi_⟩ | ⟨rfl, hi_⟩
    · have HI := Aside0.mk hi_
      clear hi_
      go_wp2_with (first | ((with_reducible refine gate_dst (N := 35) rfl ?_); refine xl_loadRow HI.out.1.st 2 gs (spv s) 29 rfl rfl 29 (.tmp 7) rfl rfl (by kernel_rfl) (space_info hs) ?_) | ((with_reducible refine gate_callee (f := 28) rfl ?_); refine goesL_ (some 41) rfl rfl Tryd.func28 (by kernel_rfl) rfl #[.agg (spv s), .int .u32 0, .int .i64 1, .bool true] rfl (by (try simp only [List.map_toArray, List.map_cons, List.map_nil]); first | done | rfl) ?_; refine (FA.out _).mono ?_; rintro e w_ ⟨rfl, hb_⟩; refine ⟨_, rfl, ?_⟩; have hi_ := lay_later HI.out hb_; clear HI; have HI := Aside0.mk hi_; clear hi_; clear hb_) | (go_at_call 29; (with_reducible refine (mmu_there.calls A c l f true _ (lay_C HI.out) HC.out HTH.out).mono ?_); rintro e w_ ⟨rfl, ⟨nd, rfl⟩⟩; have hi_ := lay_drewN HI.out nd; clear HI; have HI := Aside0.mk hi_; clear hi_) | ((with_reducible refine gate_calleeV (s := 59) rfl ?_); refine goesCL_ (some 64) rfl rfl #[(.pointer (some ⟨go, 0, none⟩)), (.pointer (some ⟨gd, 0, none⟩))] Tryd.func26 (by kernel_rfl) rfl #[.int .i64 f, .int .i64 0, .int .i64 0, .int .i64 4] #[.int .i64 f, .int .i64 0, .int .i64 0, .int .i64 4, (.pointer (some ⟨go, 0, none⟩)), (.pointer (some ⟨gd, 0, none⟩))] rfl rfl rfl (by (try simp only [List.map_toArray, List.map_cons, List.map_nil]); first | done | rfl) ?_; refine (lay1_calls w0 _ go gd _ d l r _ f 0 0 4 HI.out (by decide) (by decide) (by have := HD.out; omega) HY.out).mono ?_; rintro e w_ ⟨rfl, hi_⟩; refine ⟨_, rfl, ?_⟩; clear HI; have HI := Aside0.mk hi_; clear hi_))
      go_roundw
      case rel => exact .inr ⟨rfl, HI.out⟩
      case measure => first | (simp [intOf]; done) | (simp [intOf]; decide)
    · have HI := Aside0.mk hi_
      clear hi_
      go_wp2_with (first | ((with_reducible refine gate_dst (N := 35) rfl ?_); refine xl_loadRow HI.out.1.st 2 gs (spv s) 29 rfl rfl 29 (.tmp 7) rfl rfl (by kernel_rfl) (space_info hs) ?_) | ((with_reducible refine gate_callee (f := 28) rfl ?_); refine goesL_ (some 41) rfl rfl Tryd.func28 (by kernel_rfl) rfl #[.agg (spv s), .int .u32 0, .int .i64 1, .bool true] rfl (by (try simp only [List.map_toArray, List.map_cons, List.map_nil]); first | done | rfl) ?_; refine (FA.out _).mono ?_; rintro e w_ ⟨rfl, hb_⟩; refine ⟨_, rfl, ?_⟩; have hi_ := lay_later HI.out hb_; clear HI; have HI := Aside0.mk hi_; clear hi_; clear hb_) | (go_at_call 29; (with_reducible refine (mmu_there.calls A c l f true _ (lay_C HI.out) HC.out HTH.out).mono ?_); rintro e w_ ⟨rfl, ⟨nd, rfl⟩⟩; have hi_ := lay_drewN HI.out nd; clear HI; have HI := Aside0.mk hi_; clear hi_) | ((with_reducible refine gate_calleeV (s := 59) rfl ?_); refine goesCL_ (some 64) rfl rfl #[(.pointer (some ⟨go, 0, none⟩)), (.pointer (some ⟨gd, 0, none⟩))] Tryd.func26 (by kernel_rfl) rfl #[.int .i64 f, .int .i64 0, .int .i64 0, .int .i64 4] #[.int .i64 f, .int .i64 0, .int .i64 0, .int .i64 4, (.pointer (some ⟨go, 0, none⟩)), (.pointer (some ⟨gd, 0, none⟩))] rfl rfl rfl (by (try simp only [List.map_toArray, List.map_cons, List.map_nil]); first | done | rfl) ?_; refine (lay1_calls w0 _ go gd _ d l r _ f 0 0 4 HI.out (by decide) (by decide) (by have := HD.out; omega) HY.out).mono ?_; rintro e w_ ⟨rfl, hi_⟩; refine ⟨_, rfl, ?_⟩; clear HI; have HI := Aside0.mk hi_; clear hi_))
      go_ret
      exact ⟨rfl, gs, HI.out⟩
end Go.Proofs.YtiklcpacbclpnaaDoor.P
end
section
set_option linter.unusedVariables false
set_option linter.unusedSimpArgs false
namespace Go.Proofs.YtiklcpacbclpnaaDoor.P
open Go.RowKit Go.Proofs.YtiklcpacbclpnaaDoorW.PrintWords Go.Proofs.YtiklcpacbclpnaaDoorW.PrintLast Go.Proofs.YtiklcpacbclpnaaDoorW.PrintMore
attribute [local go_sem] isSome_setCell_eq
theorem lay_hold {w0 w w1 : World} {bs : List Blk} {v : Value} {l : List ByteArray} (h : St w0.heap.size w0 w bs) (ho : Kd.R Kd.string 9 w1 w.heap.size (fun _ => True) v l) (hb : Below w.heap.size w w1) :
    StK w0.heap.size w0 w1 bs (fun k => v.ownBlock = some k) w1 ∧ Kd.R Kd.string 9 w1 w0.heap.size (fun k => v.ownBlock = some k) v l :=
  ⟨stk_hold (StK.of_st (h.later hb)) (fun k hk => ⟨(own_lt ho hk).2, fun x hx e => by have h1 := h.lt hx e; have h2 := (own_lt ho hk).1; omega⟩), R_only (Kd.R_lower ho h.low)⟩
theorem lay_made {w0 w wK : World} {go gd : Nat} {vo : Value} {d : ByteArray} {l : List ByteArray} {rest : List Blk} (h : StK w0.heap.size w0 w ((some go, #[vo], 30) :: (some gd, #[.string d], 9) :: rest) (fun k => vo.ownBlock = some k) wK) (ho : Kd.R Kd.string 9 wK w0.heap.size (fun k => vo.ownBlock = some k) vo l) : LayIn w0 w go gd vo d l rest :=
  ⟨h.now, R_held ho (fun g hg => (h.held g hg).2)⟩
set_option maxHeartbeats 8000000 in
set_option maxRecDepth 100000 in
theorem Lay_calls (w : World) (A : Option Addr) (c : Nat) (d : ByteArray) (l r : List ByteArray) (s : List Pg) (f : Int) (hr : Kd.C Kd.string w A l.length l) (hl1 : 1 ≤ l.length) (hl : l.length ≤ 100000) (hs : s.length = 16) (hd : d.size = 4) (hf : findT s 0 1 true = (f, 0, true)) (ht : thereB l f = true) (hy : mmu_lay.f l f 0 (d.extract (0 : Int).toNat (4 : Int).toNat) = some r) :
    Calls Tryd.prog 12 #[.slice A l.length c, .agg (spv s), .int .u32 0, .string d] w fun e w' => ∃ u, e = .returned (.tuple #[u, .bool true]) ∧ Kd.R Kd.string 9 w' w.heap.size (fun _ => True) u r ∧ Below w.heap.size w w' := by
  have HS := Aside0.mk (St.start w)
  have HR := Aside0.mk hr
  have HY := Aside0.mk hy
  have HL := Aside0.mk hl
  have HL1 := Aside0.mk hl1
  have HD := Aside0.mk hd
  have HDL : Aside0 ((d.size : Int) = 4) := ⟨by omega⟩
  have HF := Aside0.mk hf
  have HT := Aside0.mk ht
  clear hr hy hl hl1 hd hf ht
  go_enter Tryd.func12, Tryd.ntmps12
  go_wp2_with (first | ((with_reducible refine gate_dst (N := 5) rfl ?_); refine xl_box HS.out rfl 5 rfl (spv s) 29 ?hr ?_; (case hr => first | (go_simp; done) | (go_simp; rfl)); intro g5 w_ hs_; clear HS; have HS := Aside0.mk hs_; clear hs_) | ((with_reducible refine gate_dst (N := 7) rfl ?_); refine xl_box HS.out rfl 7 rfl #[.string d] 9 ?hr ?_; (case hr => first | (go_simp; done) | (go_simp; rfl)); intro gd w_ hs_; clear HS; have HS := Aside0.mk hs_; clear hs_) | ((with_reducible refine gate_callee (f := 24) rfl ?_); refine goesL_ (some 12) rfl rfl Tryd.func24 (by kernel_rfl) rfl #[.slice A l.length c] rfl (by (try simp only [List.map_toArray, List.map_cons, List.map_nil]); first | done | rfl) ?_; refine (clone_calls A c l _ (Kd.C_below HR.out HS.out.below) HL1.out HL.out).mono ?_; rintro e w_ ⟨vc, rfl, ho_, hb_⟩; refine ⟨_, rfl, ?_⟩; obtain ⟨A2, c2, rfl, hc2_, _⟩ := R_form ho_; have hk_ := lay_hold HS.out ho_ hb_; clear HS; have HS := Aside0.mk hk_.1; have HO := Aside0.mk hk_.2; have HC2 := Aside0.mk hc2_; clear hk_ ho_ hb_ hc2_) | ((with_reducible refine gate_dst (N := 10) rfl ?_); refine xl_boxK HS.out rfl 10 rfl #[.slice none 0 0] 30 ?hr ?_; (case hr => first | (go_simp; done) | (go_simp; rfl)); intro go w_ hs_; clear HS; have HS := Aside0.mk hs_; clear hs_) | ((with_reducible refine gate_store (t := 30) (p := 10) rfl ?_); refine xl_storeK HS.out 0 go #[.slice none 0 0] 30 rfl rfl rfl 30 (.tmp 10) (.tmp 12) rfl 0 rfl (.slice A2 l.length c2) rfl (by kernel_rfl) rfl (by decide) ?_; intro w_ hs_; clear HS; have HI := Aside0.mk (lay_made hs_ HO.out); clear hs_ HO) | ((with_reducible refine gate_dst (N := 13) rfl ?_); refine xl_load HI.out.1.st 0 go #[.slice A2 l.length c2] 30 rfl rfl 30 (.tmp 10) rfl 0 rfl (by kernel_rfl) (.slice A2 l.length c2) rfl ?_) | ((with_reducible refine gate_dst (N := 14) rfl ?_); refine xl_loadRow HI.out.1.st 2 g5 (spv s) 29 rfl rfl 29 (.tmp 5) rfl rfl (by kernel_rfl) (space_info hs) ?_) | ((with_reducible refine gate_dst (N := 16) rfl ?_); refine xl_load HI.out.1.st 1 gd #[.string d] 9 rfl rfl 9 (.tmp 7) rfl 0 rfl (by kernel_rfl) (.string d) rfl ?_) | ((with_reducible refine gate_dst (N := 17) rfl ?_); refine xl_val rfl (.int .i64 4) ?hr ?_; (case hr => (go_simp; first | done | exact HDL.out | (rw [HD.out]; rfl)))) | ((with_reducible refine gate_callee (f := 25) rfl ?_); refine goesL_ (some 19) rfl rfl Tryd.func25 (by kernel_rfl) rfl #[.slice A2 l.length c2, .agg (spv s), .int .u32 0, .int .i64 4, .bool true, .func (.func 26) #[] #[(.pointer (some ⟨go, 0, none⟩)), (.pointer (some ⟨gd, 0, none⟩))]] rfl (by (try simp only [List.map_toArray, List.map_cons, List.map_nil]); first | done | rfl) ?_; refine (walk_calls w _ go gd A2 c2 d l r _ s f HI.out HC2.out hs HD.out HF.out HT.out HY.out).mono ?_; rintro e w_ ⟨rfl, gs2, hi_⟩; refine ⟨_, rfl, ?_⟩; clear HI; have HI := Aside0.mk hi_; clear hi_) | ((with_reducible refine gate_dst (N := 21) rfl ?_); refine xl_load HI.out.1.st 0 go #[.slice A2 l.length c2] 30 rfl rfl 30 (.tmp 10) rfl 0 rfl (by kernel_rfl) (.slice A2 l.length c2) rfl ?_))
  go_ret2
  exact ⟨_, rfl, Kd.R_mono HI.out.2 (fun _ _ => trivial), HI.out.1.st.below⟩
end Go.Proofs.YtiklcpacbclpnaaDoor.P
end
section
set_option linter.unusedVariables false
namespace Go.Proofs.YtiklcpacbclpnaaDoorW.PrintLast
open Go.RowKit Go.Proofs.YtiklcpacbclpnaaDoorW.PrintWords
def OpMayG (P : Program) (ops : Array Oper) (o : Oper) (af : Act) (Q : Exit → Act → World → Prop) (w : World) (T : Value → World → Prop) : Prop :=
  if Region.wanted o (yielded ops af.tmps) = true then
    match (execOp af.eval o).run P w with
    | .ok (.value v) w' => T v w'
    | .ok .skip w' => T undef w'
    | .ok (.enter f args) w' => Calls P f args w' fun e w'' => match e with
      | .returned v => T v w''
      | .panicked c => ∀ a, Q (.panic c) a w''
      | .outgrown => LetsOut Q
    | .halt (.panic v) w' => ∀ a, Q (.panic [{ v, recovered := false }]) a w'
    | _ => False
  else T undef w
def ClosedB (ops : Array Oper) (b : Nat → Bool) : Prop := ∀ (j : Nat) (o : Oper), ops[j]? = some o → b j = true → ∀ k ∈ needsOf .any o, b k = true
section
variable {P : Program} {ops : Array Oper} {Q : Exit → Act → World → Prop} {a0 : Act}
theorem region_gh_go {G : Type} (af : G → Act) (hd : detB ops = true) (R : G → (Nat → Bool) → World → Prop)
    (hsz : ∀ g, (af g).defers = a0.defers ∧ (af g).tmps.size = a0.tmps.size)
    (hfin : ∀ g t, (∀ (j : Nat) (o : Oper), ops[j]? = some o → o.dst ≠ some t) → (af g).tmps[t]? = a0.tmps[t]?)
    (hop : ∀ (i : Nat) (o : Oper), ops[i]? = some o → ∀ (g : G) (b : Nat → Bool) (w : World), b i = false → (∀ j ∈ needsOf .any o, b j = true) → ClosedB ops b → R g b w →
      OpMayG P ops o (af g) Q w (fun v w' => ∃ g', R g' (fun j => j == i || b j) w' ∧ (∀ d, o.dst = some d → (af g').eval (.tmp d) = v) ∧ ∀ (j : Nat) (p : Oper) (d : Tmp), ops[j]? = some p → p.dst = some d → b j = true → (af g').tmps[d]? = (af g).tmps[d]?))
    (hend : ∀ (g : G) (b : Nat → Bool) (w : World), (∀ i, i < ops.size → b i = true) → R g b w → Q .normal (af g) w) :
    ∀ (fuel : Nat) (l : Array Bool) (b : Nat → Bool) (g : G) (a : Act) (w : World), l.size = ops.size → (∀ j, l.getD j false = b j) → (∀ i, i < ops.size → b i = false → 0 < fuel) → (List.range ops.size).countP (fun i => !b i) ≤ fuel → ClosedB ops b → Mid ops a0 (af g) b a → R g b w → wpAny P .any ops Q fuel l a w := by
  obtain ⟨hsel, hlt, hone, hlook⟩ := det_parts hd
  have hnil : ∀ (l : Array Bool) (b : Nat → Bool), l.size = ops.size → (∀ j, l.getD j false = b j) → Region.ready .any ops l = [] → ∀ i, i < ops.size → b i = true := by
    intro l b hl hb hr i
    induction i using Nat.strongRecOn with
    | _ i ih =>
      intro hi
      cases hbi : b i with
      | true => rfl
      | false =>
        exfalso
        have hm : i ∈ Region.ready .any ops l := by
          rw [mem_ready]
          refine ⟨?_, ops[i], Array.getElem?_eq_getElem hi, fun e he hbe => ?_⟩
          · have := hb i
            rw [hbi] at this
            simpa [Array.getD_eq_getD_getElem?, hl, hi] using this
          · have hn : e.on ∈ needsOf .any ops[i] := List.mem_map.2 ⟨e, List.mem_filter.2 ⟨by simpa using he, hbe⟩, rfl⟩
            have := hlt i ops[i] (Array.getElem?_eq_getElem hi) e.on hn
            rw [hb]
            exact ih e.on this (by omega)
        rw [hr] at hm
        cases hm
  have hdone : ∀ (l : Array Bool) (b : Nat → Bool) (g : G) (a : Act) (w : World), l.size = ops.size → (∀ j, l.getD j false = b j) → Region.ready .any ops l = [] → Mid ops a0 (af g) b a → R g b w → Q .normal a w := by
    intro l b g a w hl hb hr hm hR
    have hall := hnil l b hl hb hr
    have hfg := hfin g
    have ha : a = af g := by
      obtain ⟨m1, m2, m3⟩ := hm
      generalize af g = F at m1 m2 m3 hfg
      obtain ⟨at_, ad_⟩ := a
      obtain ⟨ft_, fd_⟩ := F
      dsimp only at m1 m2 m3 hfg ⊢
      subst m1
      congr
      refine Array.ext_getElem? (fun t => ?_)
      by_cases ht : ∃ (j : Nat) (o : Oper), ops[j]? = some o ∧ o.dst = some t ∧ b j = true
      · exact (m3 t).1 ht
      · rw [(m3 t).2 ht]
        refine (hfg t (fun j o ho hod => ht ⟨j, o, ho, hod, ?_⟩)).symm
        exact hall j (Array.getElem?_eq_some_iff.1 ho).1
    rw [ha]
    exact hend g b w hall hR
  intro fuel
  induction fuel with
  | zero =>
    intro l b g a w hl hb hf _ _ hm hR
    have hr : Region.ready .any ops l = [] := by
      cases h : Region.ready .any ops l with
      | nil => rfl
      | cons i r =>
        exfalso
        have hi : i ∈ Region.ready .any ops l := by rw [h]; exact List.mem_cons_self
        obtain ⟨h1, o, ho, _⟩ := mem_ready.1 hi
        have hs := (Array.getElem?_eq_some_iff.1 ho).1
        have hbi : b i = false := by
          rw [← hb i]
          simpa [Array.getD_eq_getD_getElem?, hl, hs] using h1
        exact absurd (hf i hs hbi) (by omega)
    exact ⟨hr, hdone l b g a w hl hb hr hm hR⟩
  | succ fuel ih =>
    intro l b g a w hl hb hf hcnt hcl hm hR
    refine ⟨fun hr => hdone l b g a w hl hb hr hm hR, fun i hi => ?_⟩
    obtain ⟨h1, o, ho, h2⟩ := mem_ready.1 hi
    have hs := (Array.getElem?_eq_some_iff.1 ho).1
    have hbi : b i = false := by
      rw [← hb i]
      simpa [Array.getD_eq_getD_getElem?, hl, hs] using h1
    have hneed : ∀ j ∈ needsOf .any o, b j = true := by
      intro j hj
      obtain ⟨e, he, rfl⟩ := List.mem_map.1 hj
      obtain ⟨he1, he2⟩ := List.mem_filter.1 he
      rw [← hb]
      exact h2 e (by simpa using he1) he2
    have hsame : ∀ t ∈ o.looksAt ops, a.tmps[t]? = (af g).tmps[t]? := by
      intro t ht
      by_cases hx : ∃ (j : Nat) (p : Oper), ops[j]? = some p ∧ p.dst = some t
      · obtain ⟨j, p, hp, hpd⟩ := hx
        exact (hm.2.2 t).1 ⟨j, p, hp, hpd, hneed j (hlook i o j p t ho hp hpd ht)⟩
      · rw [(hm.2.2 t).2 (fun ⟨j, p, hp, hpd, _⟩ => hx ⟨j, p, hp, hpd⟩)]
        exact (hfin g t (fun j p hp hpd => hx ⟨j, p, hp, hpd⟩)).symm
    have hcnt' : (List.range ops.size).countP (fun j => !(j == i || b j)) ≤ fuel := by
      have e : (List.range ops.size).countP (fun j => !b j) = (List.range ops.size).countP (fun j => !(j == i || b j)) + 1 := by
        have h3 : ∀ (xs : List Nat), xs.Nodup → i ∈ xs → xs.countP (fun j => !b j) = xs.countP (fun j => !(j == i || b j)) + 1 := by
          intro xs
          induction xs with
          | nil => intro _ h; cases h
          | cons x xs ihx =>
            intro hnd hmem
            rw [List.nodup_cons] at hnd
            by_cases hxi : x = i
            · subst hxi
              have h5 : ∀ (ys : List Nat), x ∉ ys → ys.countP (fun j => !b j) = ys.countP (fun j => !(j == x || b j)) := by
                intro ys hy
                apply List.countP_congr
                intro j hj
                have : (j == x) = false := by simp; rintro rfl; exact hy hj
                simp [this]
              rw [List.countP_cons_of_pos (by simp [hbi]), List.countP_cons_of_neg (by simp), h5 xs hnd.1]
            · have hm' : i ∈ xs := by
                rcases List.mem_cons.1 hmem with h | h
                · exact absurd h.symm hxi
                · exact h
              have e1 : (x == i) = false := by simpa using hxi
              rw [List.countP_cons, List.countP_cons, ihx hnd.2 hm']
              simp only [e1, Bool.false_or]
              omega
        exact h3 _ List.nodup_range (List.mem_range.2 hs)
      omega
    have hcl' : ClosedB ops (fun j => j == i || b j) := by
      intro j p hp hj k hk
      by_cases hji : j = i
      · subst hji
        rw [ho] at hp
        injection hp with hp
        subst hp
        simp [hneed k hk]
      · have hbj : b j = true := by simpa [hji] using hj
        simp [hcl j p hp hbj k hk]
    have hnext : ∀ (v : Value) (w' : World), (∃ g', R g' (fun j => j == i || b j) w' ∧ (∀ d, o.dst = some d → (af g').eval (.tmp d) = v) ∧ ∀ (j : Nat) (p : Oper) (d : Tmp), ops[j]? = some p → p.dst = some d → b j = true → (af g').tmps[d]? = (af g).tmps[d]?) → wpAny P .any ops Q fuel (l.setIfInBounds i true) (a.put o.dst v) w' := by
      rintro v w' ⟨g', hR', hv, hag⟩
      have hm' : Mid ops a0 (af g') b a := by
        obtain ⟨m1, m2, m3⟩ := hm
        refine ⟨by rw [m1, (hsz g).1, (hsz g').1], by rw [m2, (hsz g).2, (hsz g').2], fun t => ⟨fun hx => ?_, fun hx => (m3 t).2 hx⟩⟩
        rw [(m3 t).1 hx]
        obtain ⟨j, p, hp, hpd, hbj⟩ := hx
        exact (hag j p t hp hpd hbj).symm
      refine ih (l.setIfInBounds i true) (fun j => j == i || b j) g' (a.put o.dst v) w' (by simpa using hl) (fun j => ?_) (fun j hj hbj => ?_) hcnt' hcl' (mid_put hm' hd ho hv) hR'
      · rw [getD_set_eq (by omega), hb j]
      · have : 0 < (List.range ops.size).countP (fun j => !(j == i || b j)) := List.countP_pos_iff.2 ⟨j, List.mem_range.2 hj, by simpa using hbj⟩
        omega
    have h4 := hop i o ho g b w hbi hneed hcl hR
    unfold OpMayG at h4
    unfold wpOp
    rw [ho]
    simp only
    rw [wanted_congr hsame]
    split
    · rename_i hw
      rw [if_pos hw] at h4
      refine .inl ?_
      unfold Oper.wp
      rw [exec_congr (fun cs b => hsel i o cs b ho) hsame]
      generalize (execOp (af g).eval o).run P w = r at h4 ⊢
      cases r with
      | ok n w' =>
        cases n with
        | value v => exact hnext v w' h4
        | skip => exact hnext undef w' h4
        | enter f args =>
          refine Calls.mono h4 (fun e w'' he => ?_)
          cases e with
          | returned v => exact hnext v w'' he
          | panicked c => exact he a
          | outgrown => exact he
        | _ => exact h4.elim
      | halt x w' =>
        cases x with
        | panic v => exact h4 a
        | _ => exact h4.elim
    · rename_i hw
      rw [if_neg hw] at h4
      exact hnext undef w h4
theorem putAll_tmps_look {vs vs' : List (Tmp × Value)} {a : Act} (h : (vs.all fun x => decide (x.1 < a.tmps.size)) = true) (h' : (vs'.all fun x => decide (x.1 < a.tmps.size)) = true) {t : Tmp} (e : look vs t = look vs' t) : (putAll a vs).tmps[t]? = (putAll a vs').tmps[t]? := by
  have e1 := putAll_look vs a h t
  have e2 := putAll_look vs' a h' t
  rw [e] at e1
  have s1 := putAll_size vs a
  have s2 := putAll_size vs' a
  have e3 : (putAll a vs).eval (.tmp t) = (putAll a vs').eval (.tmp t) := e1.trans e2.symm
  simp only [Act.eval, Array.getD_eq_getD_getElem?] at e3
  rcases Nat.lt_or_ge t a.tmps.size with hl | hl
  · rw [Array.getElem?_eq_getElem (by omega), Array.getElem?_eq_getElem (by omega)] at e3 ⊢
    simpa using e3
  · rw [Array.getElem?_eq_none (by omega), Array.getElem?_eq_none (by omega)]
theorem region_gh {id : Nat} {a : Act} {w : World} (G : Type) (g0 : G) (vs : G → List (Tmp × Value)) (R : G → (Nat → Bool) → World → Prop) (hm : P.follows .mixedOrders = true) (hd : detB ops = true)
    (hsz : ∀ g, ((vs g).all fun x => decide (x.1 < a.tmps.size)) = true) (hk : ∀ g, ((vs g).map (·.1)).all (fun t => (dstsOf ops).contains t) = true) (h0 : R g0 (fun _ => false) w.drew)
    (hop : ∀ (g : G) (af : Act), af.eval = lookE (vs g) a → AllFrom (fun i o => ∀ (b : Nat → Bool) (w : World), b i = false → (∀ j ∈ needsOf .any o, b j = true) → ClosedB ops b → R g b w →
      OpMayG P ops o af Q w (fun v w' => ∃ g', R g' (fun j => j == i || b j) w' ∧ (∀ d, o.dst = some d → lookE (vs g') a (.tmp d) = v) ∧ ∀ (j : Nat) (p : Oper) (d : Tmp), ops[j]? = some p → p.dst = some d → b j = true → look (vs g') d = look (vs g) d)) 0 ops.toList)
    (hend : ∀ (g : G) (b : Nat → Bool) (w : World), (∀ i, i < ops.size → b i = true) → R g b w → wpList P #[] Q (puts (vs g)) a w) : (Code.region id ops true).wp P Q a w := by
  refine wp_region_any hm ?_
  have hcnt : (List.range ops.size).countP (fun _ => !false) ≤ ops.size := by
    simp
  refine region_gh_go (a0 := a) (fun g => putAll a (vs g)) hd R (fun g => ⟨putAll_defers _ a, putAll_size _ a⟩) (fun g t ht => ?_) (fun i o ho g b w hb hn hc hR => ?_) (fun g b w hb hR => of_puts (vs g) a w (hend g b w hb hR)) ops.size _ (fun _ => false) g0 a w.drew (by simp) (fun j => ?_) (fun i hi _ => by omega) hcnt (fun j o ho hf => by cases hf) ?_ h0
  · refine putAll_other (vs g) a t (fun x hx he => ?_)
    have h1 := List.all_eq_true.1 (hk g) x.1 (List.mem_map.2 ⟨x, hx, rfl⟩)
    rw [List.contains_iff_mem] at h1
    obtain ⟨o, ho, hod⟩ := List.mem_filterMap.1 h1
    obtain ⟨j, hj, hjo⟩ := List.getElem_of_mem ho
    exact ht j o (by rw [← Array.getElem?_toList, List.getElem?_eq_getElem hj, hjo]) (by rw [hod, he])
  · have h1 := allFrom_at (hop g _ (eval_lookE (vs g) a (hsz g))) i o (by rw [Array.getElem?_toList]; exact ho)
    rw [Nat.zero_add] at h1
    have h2 := h1 b w hb hn hc hR
    have key : ∀ v w', (∃ g', R g' (fun j => j == i || b j) w' ∧ (∀ d, o.dst = some d → lookE (vs g') a (.tmp d) = v) ∧ ∀ (j : Nat) (p : Oper) (d : Tmp), ops[j]? = some p → p.dst = some d → b j = true → look (vs g') d = look (vs g) d) →
        ∃ g', R g' (fun j => j == i || b j) w' ∧ (∀ d, o.dst = some d → (putAll a (vs g')).eval (.tmp d) = v) ∧ ∀ (j : Nat) (p : Oper) (d : Tmp), ops[j]? = some p → p.dst = some d → b j = true → (putAll a (vs g')).tmps[d]? = (putAll a (vs g)).tmps[d]? := by
      rintro v w' ⟨g', k1, k2, k3⟩
      exact ⟨g', k1, fun d hd => by rw [eval_lookE (vs g') a (hsz g')]; exact k2 d hd, fun j p d hp hpd hbj => putAll_tmps_look (hsz g') (hsz g) (k3 j p d hp hpd hbj)⟩
    unfold OpMayG at h2 ⊢
    split
    · rename_i hw
      rw [if_pos hw] at h2
      generalize (execOp (putAll a (vs g)).eval o).run P w = r at h2 ⊢
      cases r with
      | ok n w' =>
        cases n with
        | value v => exact key v w' h2
        | skip => exact key undef w' h2
        | enter f args =>
          refine Calls.mono h2 (fun e w'' he => ?_)
          cases e with
          | returned v => exact key v w'' he
          | _ => exact he
        | _ => exact h2.elim
      | halt x w' =>
        cases x with
        | panic v => exact h2
        | _ => exact h2.elim
    · rename_i hw
      rw [if_neg hw] at h2
      exact key undef w h2
  · simp [Array.getD_eq_getD_getElem?, Array.getElem?_replicate]
    split <;> rfl
  · refine ⟨(putAll_defers (vs g0) a).symm, (putAll_size (vs g0) a).symm, fun t => ⟨fun h => ?_, fun _ => rfl⟩⟩
    obtain ⟨_, _, _, _, h⟩ := h
    cases h
theorem gh_of_may {G : Type} {vs : G → List (Tmp × Value)} {a af : Act} {R : G → (Nat → Bool) → World → Prop} {o : Oper} {w : World} {g : G} {b b' : Nat → Bool} (E : af.eval = lookE (vs g) a) (h : OpMay P ops o af Q w (R g b')) :
    OpMayG P ops o af Q w (fun v w' => ∃ g', R g' b' w' ∧ (∀ d, o.dst = some d → lookE (vs g') a (.tmp d) = v) ∧ ∀ (j : Nat) (p : Oper) (d : Tmp), ops[j]? = some p → p.dst = some d → b j = true → look (vs g') d = look (vs g) d) := by
  unfold OpMay at h
  unfold OpMayG
  rw [E] at h
  split
  · rename_i hw
    rw [if_pos hw] at h
    unfold OpDoes at h
    rw [E] at h ⊢
    generalize (execOp (lookE (vs g) a) o).run P w = r at h ⊢
    cases r with
    | ok n w' =>
      cases n with
      | value v => exact ⟨g, h.2, h.1, fun _ _ _ _ _ _ => rfl⟩
      | skip => exact ⟨g, h.2, h.1, fun _ _ _ _ _ _ => rfl⟩
      | enter f args =>
        refine Calls.mono h (fun e w'' he => ?_)
        cases e with
        | returned v => exact ⟨g, he.2, he.1, fun _ _ _ _ _ _ => rfl⟩
        | _ => exact he
      | _ => exact h.elim
    | halt x w' =>
      cases x with
      | panic v => exact h
      | _ => exact h.elim
  · rename_i hw
    rw [if_neg hw] at h
    exact ⟨g, h.2, h.1, fun _ _ _ _ _ _ => rfl⟩
def SameBut (ch : List Tmp) : List (Tmp × Value) → List (Tmp × Value) → Prop
  | [], [] => True
  | (n, v) :: r, (m, u) :: s => n = m ∧ (v = u ∨ n ∈ ch) ∧ SameBut ch r s
  | _, _ => False
theorem look_sameBut {ch : List Tmp} {d : Tmp} (hd : d ∉ ch) : ∀ {vs us : List (Tmp × Value)}, SameBut ch vs us → look vs d = look us d
  | [], [], _ => rfl
  | (n, v) :: r, (m, u) :: s, h => by
    obtain ⟨rfl, h2, h3⟩ := h
    unfold look
    rw [look_sameBut hd h3]
    cases look s d with
    | some _ => rfl
    | none =>
      rcases h2 with rfl | h2
      · rfl
      · have : (n == d) = false := by simp; rintro rfl; exact hd h2
        simp [this]
  | [], _ :: _, h => by cases h
  | _ :: _, [], h => by cases h
theorem agree_of (hd : detB ops = true) {b : Nat → Bool} {vs us : List (Tmp × Value)} (ch : List (Nat × Tmp)) (hs : SameBut (ch.map (·.2)) vs us) (hc : ∀ x ∈ ch, b x.1 = false ∧ ∃ o, ops[x.1]? = some o ∧ o.dst = some x.2) :
    ∀ (j : Nat) (p : Oper) (d : Tmp), ops[j]? = some p → p.dst = some d → b j = true → look vs d = look us d := by
  intro j p d hp hpd hb
  refine look_sameBut (fun hm => ?_) hs
  obtain ⟨x, hx, rfl⟩ := List.mem_map.1 hm
  obtain ⟨h1, o, ho, hod⟩ := hc x hx
  obtain ⟨_, _, hone, _⟩ := det_parts hd
  have := hone x.1 o j p x.2 ho hp hpd hod
  rw [this, h1] at hb
  cases hb
theorem gh_value {o : Oper} {af : Act} {w w1 : World} {v : Value} {T : Value → World → Prop} (hg : o.guard = none) (hrun : (execOp af.eval o).run P w = .ok (.value v) w1) (hT : T v w1) : OpMayG P ops o af Q w T := by
  unfold OpMayG
  rw [if_pos (by simp [Region.wanted, hg]), hrun]
  exact hT
theorem gh_buildSlice {o : Oper} {af : Act} {w w1 : World} {v : Value} {T : Value → World → Prop} (hg : o.guard = none) (S : TypeId) (n : Nat) (parts : Array (Nat × Operand)) (ho : o.op = .buildSlice S n parts) (ps : Array (Nat × Value)) (hp : (parts.map fun (i, x) => (i, af.eval x)) = ps)
    (hr : (Instr.buildSlice S n ps).run P w = .ok v w1) (hT : T v w1) : OpMayG P ops o af Q w T := by
  refine gh_value hg ?_ hT
  unfold execOp
  simp only [ho, hp, Sem.run_bind, hr, Result.andThen_ok]
  first | done | rfl
theorem gh_goes {o : Oper} {af : Act} {w : World} {T : Value → World → Prop} (hgd : o.guard = none) (f : FuncId) (fn : Func) (hf : P.funcs[f]? = some fn) (hname : (fn.name == "runtime.NumGoroutine") = false) (hb : fn.body.isSome = true) (as1 : Array Operand) (ts : Array TypeId) (ho : o.op = .call { callee := .value (.func f), args := as1, argTypes := ts }) (args : Array Value) (hargs : as1.map af.eval = args)
    (h : Calls P f args w fun e w' => ∃ v, e = .returned v ∧ T v w') : OpMayG P ops o af Q w T := by
  unfold OpMayG
  rw [if_pos (by simp [Region.wanted, hgd])]
  have he := enters_ hf hname hb args w
  have hrun : (execOp af.eval o).run P w = .ok (.enter f args) w := by
    unfold execOp
    simp [ho, resolve, Act.eval, Deferred.ofValue, invoke, hargs, he]
  rw [hrun]
  refine h.mono (fun e w' he => ?_)
  obtain ⟨v, rfl, hT⟩ := he
  exact hT
end
end Go.Proofs.YtiklcpacbclpnaaDoorW.PrintLast
end
section
set_option linter.unusedVariables false
set_option linter.unusedSimpArgs false
namespace Go.Proofs.YtiklcpacbclpnaaDoor.P
open Go.RowKit Go.Proofs.YtiklcpacbclpnaaDoorW.PrintWords Go.Proofs.YtiklcpacbclpnaaDoorW.PrintLast Go.Proofs.YtiklcpacbclpnaaDoorW.PrintMore
def zB : ByteArray := ⟨(List.replicate 128 (0 : UInt8)).toArray⟩
theorem page_zero : hibernacletop_page.f 200 0 = some zB := by kernel_rfl
def insB : ByteArray := ⟨#[0, 192, 72, 4]⟩
theorem ext_size : (insB.extract (0 : Int).toNat (4 : Int).toNat).size = 4 := by kernel_rfl
theorem ins_size : insB.size = 4 := by kernel_rfl
def pgW : List Pg := ⟨true, true, 1⟩ :: List.replicate 15 ⟨false, false, 0⟩
def pgR : List Pg := ⟨true, false, 1⟩ :: List.replicate 15 ⟨false, false, 0⟩
theorem add_op : isa_Op.f 40 (⟨#[97, 100, 100]⟩ : ByteArray) = some (1, true) := by kernel_rfl
theorem add_enc : isa_Enc.f 10 1 1 2 3 0 = some (71876608, 0) := by kernel_rfl
theorem get_ins : num_Get.f 10 insB = some 71876608 := by kernel_rfl
theorem find_w : findT pgW 0 1 true = (1, 0, true) := rfl
theorem find_r : findT pgR 0 4 false = (1, 0, true) := rfl
theorem zB_size : zB.size = 128 := by kernel_rfl
theorem there_z : thereB [zB, zB] 1 = true := by
  unfold thereB
  rw [decide_eq_true_eq]
  exact ⟨by decide, by decide, zB_size⟩
def frB : ByteArray := laidIn zB 0 (insB.extract (0 : Int).toNat (4 : Int).toNat)
theorem frB_ok : frB.size = 128 ∧ frB.extract 0 4 = insB := by
  constructor <;> kernel_rfl
theorem lay_ins : mmu_lay.f [zB, zB] 1 0 (insB.extract (0 : Int).toNat (4 : Int).toNat) = some [zB, frB] := by
  rw [lay_eq [zB, zB] 1 0 _ (by decide) (by decide) zB_size (by decide) (by have := ext_size; omega)]
  rfl
theorem dec_ins : Q.decOf 71876608 = (1, 1, 2, 3, 0, true) := by decide +kernel
theorem getV_ins : getV insB = 71876608 := by
  obtain ⟨k, hk⟩ := getV_eq insB (by have := ins_size; omega)
  have h1 := num_Get.mono insB
  have up : ∀ (n m : Nat), LeO (num_Get.f n insB) (num_Get.f (n + m) insB) := by
    intro n m
    induction m with
    | zero => exact fun r h => h
    | succ m ih => exact fun r h => h1 (n + m) r (ih r h)
  have a := up 10 k _ get_ins
  have b := up k 10 _ hk
  rw [Nat.add_comm k 10, a] at b
  injection b with b
  exact b.symm
theorem load_ins : loadT getV [zB, frB] pgR 0 4 = (71876608, true) := by
  have ht : thereB [zB, frB] 1 = true := by
    unfold thereB
    rw [decide_eq_true_eq]
    exact ⟨by decide, by decide, frB_ok.1⟩
  unfold loadT
  rw [find_r]
  dsimp only
  rw [if_pos ⟨rfl, ht⟩]
  have e : (rdOf ByteArray.empty [zB, frB] 1).extract (0 : Int).toNat ((0 : Int) + 4).toNat = insB := frB_ok.2
  rw [e, getV_ins]
  rfl
def rA : List Int := [0, 0, 2, 3, 0, 0, 0, 0, 0, 0, 0, 0, 0, 0, 0, 0]
def rZ : List Int := [0, 5, 2, 3, 0, 0, 0, 0, 0, 0, 0, 0, 0, 0, 0, 0]
theorem step_ins : stepT [zB, frB] pgR rA 0 = ⟨rZ, 4, [zB, frB], 0, 0⟩ := by
  unfold stepT
  rw [load_ins]
  dsimp only
  rw [dec_ins]
  dsimp only
  rw [if_neg (by decide), if_neg (by decide)]
  unfold doneT
  dsimp only
  rw [if_pos (by decide)]
  have e : rk 1 ((rA.set 0 0).getD (2 : Int).toNat 0) ((rA.set 0 0).getD (3 : Int).toNat 0) = 5 := by
    unfold rk
    rw [if_pos rfl]
    rfl
  rw [e]
  rfl
end Go.Proofs.YtiklcpacbclpnaaDoor.P
end
