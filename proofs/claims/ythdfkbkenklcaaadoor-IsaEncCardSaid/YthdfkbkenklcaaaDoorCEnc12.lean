-- Printed for this claim and put together by wip/tools/prune.py.
import Derived.Test.YthdfkbkenklcaaaDoorCEnc1
import Derived.Test.YthdfkbkenklcaaaDoorCEnc6
import Derived.Test.YthdfkbkenklcaaaDoorCEnc8
import Derived.Test.YthdfkbkenklcaaaDoorCEnc10
import Derived.Test.YthdfkbkenklcaaaDoorCEnc11
set_option linter.unusedVariables false
set_option linter.unusedSimpArgs false
section
set_option linter.unusedSimpArgs false
set_option linter.unusedVariables false
namespace Go.Proofs.YthdfkbkenklcaaaDoor.Q
open Go.RowKit Go.Proofs.YthdfkbkenklcaaaDoor.P Go.Proofs.YthdfkbkenklcaaaDoorW.PrintWords Go.Proofs.YthdfkbkenklcaaaDoorW.PrintLast Go.Proofs.YthdfkbkenklcaaaDoorW.PrintMore
theorem al1 : encOf 1 1 2 3 0 = (71876608, 0) := by decide +kernel
theorem al2 : encOf 31 0 0 0 5 = (2080374789, 0) := by decide +kernel
theorem al3 : decOf 0 = (0, 0, 0, 0, 0, false) := by decide +kernel
theorem al4 : (txt 20 1 2 0 4).toList = ([108, 119, 32, 114, 49, 44, 32, 52, 40, 114, 50, 41] : List UInt8) := by decide +kernel
theorem alive_ev : Ev (fun k => hibernaclelaw10_alive.f k) true := by
  unfold hibernaclelaw10_alive.f
  have h1 := enc_ev 1 1 2 3 0 (by omega) (by omega) (by omega) (by omega) (by omega)
  have h2 := enc_ev 31 0 0 0 5 (by omega) (by omega) (by omega) (by omega) (by omega)
  have h3 := dec_all 0 (by omega) (by omega)
  have h4 := text_ev 20 1 2 0 4 (by omega) (by omega) (by omega) (by omega) (by omega) (by omega) (by omega) (by omega) (by omega) (by omega)
  rw [al1] at h1
  rw [al2] at h2
  rw [al3] at h3
  refine Ev.bind h1 (Ev.bind h2 (Ev.bind h3 ?_))
  simp only [if_pos, Bool.false_eq_true, if_false]
  refine Ev.bind h4 ?_
  rw [al4]
  exact Ev.now _
theorem IsaEnc_ev (o a b c n : Int) (o0 : 0 ≤ o) (o1 : o < 256) (a0 : 0 ≤ a) (b0 : 0 ≤ b) (c0 : 0 ≤ c) : Ev (fun k => hibernaclelaw10_IsaEnc.f k o a b c n) true := by
  unfold hibernaclelaw10_IsaEnc.f
  refine Ev.bind alive_ev ?_
  simp only [if_pos]
  refine Ev.bind (enc_ev o a b c n o0 o1 a0 b0 c0) ?_
  refine Ev.bind (ref_enc_ev o a b c n o0 o1 a0 b0 c0) ?_
  simp only [if_pos]
  obtain ⟨r0, r1⟩ := encOf_range o a b c n o0 a0 b0 c0
  refine Ev.bind (dec_all _ r0 r1) ?_
  by_cases h : (encOf o a b c n).2 = 0
  · have hw : encOf o a b c n = ((encOf o a b c n).1, 0) := by rw [← h]
    have hd := decOf_enc o0 o1 a0 b0 c0 hw
    simp only [if_pos h, hd, if_pos]
    simp
    exact Ev.now _
  · simp only [if_neg h]
    exact Ev.now _
end Go.Proofs.YthdfkbkenklcaaaDoor.Q
end
section
namespace Go.Proofs.YthdfkbkenklcaaaDoor.Q
open Go.Proofs.YthdfkbkenklcaaaDoor.P Go.Proofs.YthdfkbkenklcaaaDoorW.PrintWords
theorem IsaEnc_row (o a b c n : Int) (h : Ix.Ok o a b c n) : Ev (fun k => hibernaclelaw10_IsaEnc.f k o a b c n) true := IsaEnc_ev o a b c n h.o0 h.o1 h.a0 h.b0 h.c0
end Go.Proofs.YthdfkbkenklcaaaDoor.Q
end
