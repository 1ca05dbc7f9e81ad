import Derived.Test.YtgjhabeoaejcdaaGa
namespace Go.Proofs.Ytgjhabeoaejcdaa.P
open Go.RowKit Go.Proofs.YtgjhabeoaejcdaaW.PrintWords Go.Proofs.YtgjhabeoaejcdaaW.PrintLast Go.Proofs.YtgjhabeoaejcdaaW.PrintMore

/-- The bytes of words, four a word. -/
def textNums : List Int → List Int
  | [] => []
  | x :: l => leNums x 4 ++ textNums l
theorem textNums_append (a b : List Int) : textNums (a ++ b) = textNums a ++ textNums b := by
  induction a with
  | nil => rfl
  | cons x a ih => simp [textNums, ih]
theorem textNums_length (l : List Int) : (textNums l).length = 4 * l.length := by
  induction l with
  | nil => rfl
  | cons x l ih => simp [textNums, ih, leNums_length]; omega
theorem leNums_range (k : Nat) : ∀ (n : Int), ∀ x ∈ leNums n k, 0 ≤ x ∧ x < 256 := by
  induction k with
  | zero => intro n x h; simp [leNums] at h
  | succ k ih =>
    intro n x h
    simp only [leNums, List.mem_cons] at h
    rcases h with rfl | h
    · omega
    · exact ih _ x h
theorem textNums_range (l : List Int) : ∀ x ∈ textNums l, 0 ≤ x ∧ x < 256 := by
  induction l with
  | nil => intro x h; simp [textNums] at h
  | cons y l ih =>
    intro x h
    simp only [textNums, List.mem_append] at h
    rcases h with h | h
    · exact leNums_range _ _ x h
    · exact ih x h
theorem byteCells_str (xs : List Int) (h : ∀ x ∈ xs, 0 ≤ x ∧ x < 256) : Lib.byteCells (strOfNums xs).data.toList = xs.map (Value.int .u8) := by
  rw [strOfNums_data]
  unfold Lib.byteCells
  rw [List.map_map]
  apply List.map_congr_left
  intro x hx
  have := h x hx
  simp only [Function.comp]
  congr 1
  have : (UInt8.ofNat x.toNat).toNat = x.toNat := by rw [UInt8.toNat_ofNat']; omega
  rw [this]; omega
theorem strCells_str (xs : List Int) (h : ∀ x ∈ xs, 0 ≤ x ∧ x < 256) : Lib.strCells (strOfNums xs) = xs.map (Value.int .u8) := by
  rw [Lib.strCells_eq, byteCells_str xs h]

def exe_text.f (l0 : List Int) : Option ByteArray := if l0.length * 4 ≤ 140737488355328 then some (strOfNums (textNums l0)) else none

/-- What the builder holds after some words. -/
def Held (l0 : List Int) (k : Nat) (w wr : World) : Prop :=
  Lib.IsBuilder 76 5 w.heap.size w.heap.size ((textNums (l0.take k)).map (Value.int .u8)) wr ∧ Below w.heap.size w wr
theorem held_step {l0 : List Int} {k : Nat} {w wr w1 w2 : World} (hk : k < l0.length) (h : Held l0 k w wr) (hb1 : Below wr.heap.size wr w1)
    (h2 : Lib.BuilderAt 76 5 w.heap.size w.heap.size (.pointer (some ⟨w.heap.size, 0, none⟩)) ((textNums (l0.take k)).map (Value.int .u8) ++ Lib.strCells (strOfNums (leNums (l0.getD k 0) 4))) w2) (hb2 : Below w.heap.size w1 w2) : Held l0 (k + 1) w w2 := by
  refine ⟨Or.inr ?_, (h.2.trans (hb1.mono h.2.size)).trans hb2⟩
  rw [strCells_str _ (leNums_range 4 _), ← List.map_append] at h2
  have e : textNums (l0.take (k + 1)) = textNums (l0.take k) ++ leNums (l0.getD k 0) 4 := by
    rw [List.take_add_one, textNums_append]
    congr 1
    rw [List.getElem?_eq_getElem hk, List.getD_eq_getElem?_getD, List.getElem?_eq_getElem hk]
    simp [textNums]
  rw [e]; exact h2
theorem builder_below {bs : List Value} {w wr w1 : World} (h : Lib.IsBuilder 76 5 w.heap.size w.heap.size bs wr) (hb : Below wr.heap.size wr w1) : Lib.IsBuilder 76 5 w.heap.size w.heap.size bs w1 := by
  have go : ∀ p, Lib.BuilderAt 76 5 w.heap.size w.heap.size p bs wr → Lib.BuilderAt 76 5 w.heap.size w.heap.size p bs w1 := by
    rintro p ⟨h1, v, hv, ho, hn⟩
    have hlt : w.heap.size < wr.heap.size := (Array.getElem?_eq_some_iff.mp hv).1
    exact ⟨h1, v, (hb.block _ hlt).trans hv, pw_own_below ho hb, hn⟩
  exact h.imp (go _) (go _)
theorem u64_wrap (n : Int) : IntKind.u64.wrap n = n % 18446744073709551616 := by
  unfold IntKind.wrap
  simp [IntKind.bits, IntKind.signed]
theorem leNums_u64 (n : Int) : leNums (IntKind.u64.wrap n) 4 = leNums n 4 := by
  rw [u64_wrap]
  simp only [leNums, List.cons.injEq, and_true]
  refine ⟨?_, ?_, ?_, ?_⟩ <;> omega

set_option maxHeartbeats 1000000 in
theorem exe_text.calls (A0 : Option Addr) (c0 : Nat) (l0 : List Int) (r : ByteArray) (w : World) (hr0 : Kd.C (Kd.int .u32) w A0 l0.length l0) (hc0 : l0.length ≤ c0) (h : exe_text.f l0 = some r) :
    Calls Try.prog 26 #[.slice A0 l0.length c0] w fun e w' => e = .returned (.string r) ∧ Below w.heap.size w w' := by
  unfold exe_text.f at h
  split at h
  · rename_i hlen
    rw [← Option.some.inj h]
    clear h
    have HR := Aside0.mk hr0
    have HC := Aside0.mk hc0
    have hs0 : Held l0 0 w (w.alloc (.cells #[.pointer none, .slice none 0 0] 76)) := ⟨by simpa [textNums] using Lib.fresh_isBuilder 76 5 w, (Below.refl _ w).alloc (Nat.le_refl _) _⟩
    have HS := Aside0.mk hs0
    clear hr0 hc0 hs0
    go_enter Try.func26, Try.ntmps26
    go_wp2
    go_loopw [5, 8] (fun _ i wr => ∃ k : Nat, k ≤ l0.length ∧ i = .int .i64 k ∧ Aside0 (Held l0 k w wr)) (fun _ i _ => l0.length - (intOf i).toNat)
    case atStart => exact ⟨0, Nat.zero_le _, rfl, HS⟩
    case round =>
      obtain ⟨k, hk, rfl, HH⟩ := hrel
      clear HS
      by_cases hlt : k < l0.length
      · obtain ⟨ad, e, hx⟩ := Kd.at_int HR.out k (by omega) (by omega)
        cases e
        replace hx := (HH.out.2.cell (World.block_lt_of_cell? w _ hx)).trans hx
        simp only [rd, Int.toNat_natCast] at hx
        obtain ⟨x, hxe⟩ : ∃ x, l0.getD k 0 = x := ⟨_, rfl⟩
        rw [hxe] at hx
        have HX := Aside0.mk hxe
        clear hxe
        have hL := textNums_length (l0.take k)
        rw [List.length_take] at hL
        have HL := Aside0.mk hL
        clear hL
        go_wp2_with fail
        refine (num_Put.calls (IntKind.u64.wrap x) 4 (strOfNums (leNums x 4)) _ (by show some (strOfNums (leNums (IntKind.u64.wrap _) 4)) = _; rw [leNums_u64])).mono ?_
        rintro e w1 ⟨rfl, hb1⟩
        have HB1 := Aside0.mk hb1
        clear hb1
        go_wp2_with fail
        refine (Try.Builder_WriteString w.heap.size w.heap.size ((textNums (l0.take k)).map (Value.int .u8)) (strOfNums (leNums x 4)) _ ?c1 ?c2 ?c3).mono ?_
        case c1 => exact builder_below HH.out.1 HB1.out
        case c2 => have := HL.out; rw [List.length_map, strOfNums_size, leNums_length]; omega
        case c3 => exact Nat.le_trans HH.out.2.size HB1.out.size
        rintro e w2 ⟨rfl, hb2, hb3⟩
        have HB2 := Aside0.mk (held_step hlt HH.out HB1.out (by rw [HX.out]; exact hb2) hb3)
        clear hb2 hb3
        go_wp2
        go_roundw
        case rel => exact ⟨k + 1, by omega, by go_num, HB2⟩
        case measure => simp [intOf]; omega
      · have hke : k = l0.length := by omega
        have HK := Aside0.mk hke
        clear hke
        go_wp2_with fail
        refine (Try.Builder_String_any w.heap.size w.heap.size (strOfNums (textNums l0)).data.toList _ ?c1 ?c2).mono ?_
        case c1 => rw [byteCells_str _ (textNums_range _)]; have := HH.out.1; rw [List.take_of_length_le (by have := HK.out; omega)] at this; exact this
        case c2 => exact HH.out.2.size
        rintro e w2 ⟨rfl, hb2⟩
        have HB2 := Aside0.mk (HH.out.2.trans hb2)
        clear hb2
        go_wp2
        go_ret
        exact ⟨rfl, HB2.out⟩
  · exact absurd h (by simp)

end Go.Proofs.Ytgjhabeoaejcdaa.P
