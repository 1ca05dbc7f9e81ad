import Derived.Test.YtgjhabeoaejcdaaPx0
import Derived.Test.YtgjhabeoaejcdaaPx10
import Derived.Test.YtgjhabeoaejcdaaPx11
import Derived.Test.YtgjhabeoaejcdaaQb
/- The plain law of the program's pages, second part, the document's looks: what may be, pages, the whole. -/
namespace Go.Proofs.Ytgjhabeoaejcdaa.Q
open Go.RowKit Go.Proofs.Ytgjhabeoaejcdaa.P Go.Proofs.YtgjhabeoaejcdaaW.PrintWords Go.Proofs.YtgjhabeoaejcdaaW.PrintLast Go.Proofs.YtgjhabeoaejcdaaW.PrintMore
theorem ref_pages_eq (n : Nat) (h : n ≤ 4611686018427387904) : hibernacleref12_pages.f n = some (pg n : Int) := by
  unfold hibernacleref12_pages.f pg
  rw [wrap64_id (n := (n : Int) + 127) (by omega) (by omega), tdiv_nn (by omega), wrap64_id (by omega) (by omega), Option.some.injEq]
  omega

theorem ref_check_last (l : List Int) (b : ByteArray) (c e : Int) (n : Nat) (t : Bool) (hn : n ≤ 1000) (hb : b.size ≤ 1000000000) (hc0 : 0 ≤ c) (hc1 : c ≤ 1000000000) (h : t = false) (r : Int)
    (hr : (if pg (4 * n) + pg (b.size + c.toNat) ≤ 14 then (0 : Int) else 1) = r) : Ev (fun k => hibernacleref12_Check.j0 k n t l b c e) r := by
  subst h
  refine Ev.step (f := fun _ => some r) (fun k => ?_) (Ev.now _)
  simp only [hibernacleref12_Check.j0]
  have e1 : 4 * (n : Int) = ((4 * n : Nat) : Int) := by omega
  have e2 : (b.size : Int) + c = ((b.size + c.toNat : Nat) : Int) := by omega
  have p1 : pg (4 * n) ≤ 1000 := by unfold pg; omega
  have p2 : pg (b.size + c.toNat) ≤ 100000000 := by unfold pg; omega
  rw [if_neg (by simp), wrap64_id (n := 4 * (n : Int)) (by omega) (by omega), e1, ref_pages_eq _ (by omega), Option.bind_some, wrap64_id (n := (b.size : Int) + c) (by omega) (by omega), e2, ref_pages_eq _ (by omega), Option.bind_some,
    wrap64_id (n := (pg (4 * n) : Int) + (pg (b.size + c.toNat) : Int)) (by omega) (by omega)]
  rw [← hr]
  by_cases h7 : pg (4 * n) + pg (b.size + c.toNat) ≤ 14
  · rw [if_neg (by omega), if_pos h7]
  · rw [if_pos (by omega), if_neg h7]
theorem ref_check_bad (l : List Int) (b : ByteArray) (c e : Int) (n : Int) : Ev (fun k => hibernacleref12_Check.j0 k n true l b c e) 1 :=
  Ev.step (f := fun _ => some 1) (fun k => by simp only [hibernacleref12_Check.j0]; rw [if_pos trivial]) (Ev.now _)
theorem ref_check (l : List Int) (b : ByteArray) (c e : Int) (hb : b.size ≤ 1000000000) (he0 : 0 ≤ e) (he1 : e < 4294967296) : Ev (fun k => hibernacleref12_Check.f k l b c e) (chk l b c e) := by
  unfold hibernacleref12_Check.f chk
  by_cases h1 : l.length < 1
  · rw [if_neg (by omega)]
    exact Ev.congr (fun k => if_pos (by omega)) (ref_check_bad ..)
  refine Ev.congr (fun k => if_neg (by omega)) ?_
  by_cases h2 : 448 < l.length
  · rw [if_neg (by omega)]
    exact Ev.congr (fun k => if_pos (by omega)) (ref_check_bad ..)
  refine Ev.congr (fun k => if_neg (by omega)) ?_
  by_cases h3 : c < 0
  · rw [if_neg (by omega)]
    exact Ev.congr (fun k => if_pos (by omega)) (ref_check_bad ..)
  refine Ev.congr (fun k => if_neg (by omega)) ?_
  by_cases h4 : 2048 < c
  · rw [if_neg (by omega)]
    exact Ev.congr (fun k => if_pos (by omega)) (ref_check_bad ..)
  refine Ev.congr (fun k => if_neg (by omega)) ?_
  by_cases h5 : 2048 < b.size
  · rw [if_neg (by unfold pg; omega)]
    exact Ev.congr (fun k => if_pos (by omega)) (ref_check_bad ..)
  refine Ev.congr (fun k => if_neg (by omega)) ?_
  by_cases h6 : e % 4 = 0
  · refine Ev.congr (fun k => if_pos (by rw [tmod_nn he0]; exact h6)) ?_
    rw [wrap64_id (n := e) (by omega) (by omega), wrap64_id (n := 4 * (l.length : Int)) (by omega) (by omega)]
    by_cases h7 : e < 4 * (l.length : Int)
    · refine ref_check_last l b c e l.length _ (by omega) hb (by omega) (by omega) (by simp; omega) _ ?_
      by_cases h8 : pg (4 * l.length) + pg (b.size + c.toNat) ≤ 14
      · rw [if_pos h8, if_pos ⟨by omega, by omega, by omega, by unfold pg at h8; omega, h6, h7, h8⟩]
      · rw [if_neg h8, if_neg (by omega)]
    · rw [if_neg (by omega), show decide (e ≥ 4 * (l.length : Int)) = true from decide_eq_true (by omega)]
      exact ref_check_bad ..
  · rw [if_neg (by omega)]
    exact Ev.congr (fun k => if_neg (by rw [tmod_nn he0]; exact h6)) (ref_check_bad ..)

end Go.Proofs.Ytgjhabeoaejcdaa.Q
