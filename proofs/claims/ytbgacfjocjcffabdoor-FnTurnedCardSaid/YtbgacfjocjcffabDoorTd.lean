/-
  The reader of bytes (spec.DrawTurn) always tells a number.
  Conditions: each element of the list is a byte.
-/
import Derived.Test.YtbgacfjocjcffabDoorPFnTurnedx1
namespace Go.Proofs.YtbgacfjocjcffabDoor.Td
open Go Go.RowKit Go.Proofs.YtbgacfjocjcffabDoor.PFnTurned Go.Proofs.YtbgacfjocjcffabDoorW.PrintWords Go.Proofs.YtbgacfjocjcffabDoorW.PrintLast Go.Proofs.YtbgacfjocjcffabDoorW.PrintMore

def bytes (l : List Int) : Prop := ∀ x ∈ l, 0 ≤ x ∧ x ≤ 255
theorem rd_nat {xs : List Int} {i : Nat} (h : i < xs.length) : rd xs (i : Int) = xs[i] := by
  unfold rd; rw [Int.toNat_natCast, List.getD_eq_getElem?_getD, List.getElem?_eq_getElem h]; rfl
theorem wrap_id {x : Int} (h0 : -9000000000000000000 ≤ x) (h1 : x ≤ 9000000000000000000) : wrap64 x = x := by unfold wrap64; omega
section
variable {l : List Int} (hb : bytes l) (hl : l.length ≤ 1000000000000000000)
include hb hl
theorem next_some (i : Int) (h0 : 0 ≤ i) (h1 : i ≤ l.length) : ∃ b j, spec_l1Rd_next.f l i = some (b, j) ∧ 0 ≤ j ∧ j ≤ l.length ∧ 0 ≤ b ∧ b ≤ 255 := by
  unfold spec_l1Rd_next.f
  by_cases h : i ≥ (l.length : Int)
  · rw [if_pos h]; exact ⟨0, i, rfl, h0, h1, by omega, by omega⟩
  · have e1 : wrap64 (i + 1) = i + 1 := wrap_id (by omega) (by omega)
    have e2 : wrap64 (i + 1 - 1) = i := by rw [wrap_id (by omega) (by omega)]; omega
    rw [if_neg h, e1, e2, if_pos h0, if_pos (by omega)]
    have hr : rd l i = l[i.toNat]'(by omega) := by
      have := rd_nat (xs := l) (i := i.toNat) (by omega)
      rwa [show ((i.toNat : Nat) : Int) = i from by omega] at this
    have hx := hb _ (List.getElem_mem (show i.toNat < l.length by omega))
    rw [hr, wrap_id (by omega) (by omega)]
    exact ⟨_, _, rfl, by omega, by omega, hx.1, hx.2⟩
theorem below_some (n i : Int) (hn : 1 < n) (h0 : 0 ≤ i) (h1 : i ≤ l.length) : ∃ v j, spec_l1Rd_below.f l i n = some (v, j) ∧ 0 ≤ j ∧ j ≤ l.length ∧ 0 ≤ v ∧ v < n := by
  unfold spec_l1Rd_below.f
  rw [if_neg (by omega)]
  obtain ⟨b, j, e, j0, j1, b0, b1⟩ := next_some hb hl i h0 h1
  by_cases h : n ≤ 256
  · rw [if_pos h, e]
    simp only [Option.bind_some]
    rw [if_neg (by omega)]
    exact ⟨_, _, rfl, j0, j1, Int.tmod_nonneg _ b0, Int.tmod_lt_of_pos _ (by omega)⟩
  · rw [if_neg h, e]
    simp only [Option.bind_some]
    obtain ⟨c, q, e2, q0, q1, c0, c1⟩ := next_some hb hl j j0 j1
    rw [e2]
    simp only [Option.bind_some]
    rw [if_neg (by omega), wrap_id (x := b * 256) (by omega) (by omega), wrap_id (x := b * 256 + c) (by omega) (by omega)]
    exact ⟨_, _, rfl, q0, q1, Int.tmod_nonneg _ (by omega), Int.tmod_lt_of_pos _ (by omega)⟩
theorem word_some : ∀ (d k : Nat) (x3 x4 i : Int), (8 - x4).toNat ≤ d → d < k → 0 ≤ x4 → 0 ≤ i → i ≤ l.length → ∃ v j, spec_l1Rd_word.l0 k x3 x4 l i = some (v, j) ∧ 0 ≤ j ∧ j ≤ l.length
  | d, k, x3, x4, i, hd, hk, hx, h0, h1 => by
    obtain ⟨k, rfl⟩ : ∃ q, k = q + 1 := ⟨k - 1, by omega⟩
    simp only [spec_l1Rd_word.l0]
    by_cases h : x4 < 8
    · obtain ⟨d, rfl⟩ : ∃ q, d = q + 1 := ⟨d - 1, by omega⟩
      obtain ⟨b, j, e, j0, j1, _, _⟩ := next_some hb hl i h0 h1
      rw [if_pos h, e]
      simp only [Option.bind_some]
      rw [wrap_id (x := x4 + 1) (by omega) (by omega)]
      exact word_some d k _ _ j (by omega) (by omega) (by omega) j0 j1
    · rw [if_neg h]; exact ⟨_, _, rfl, h0, h1⟩
theorem number_some (i : Int) (h0 : 0 ≤ i) (h1 : i ≤ l.length) : ∃ v j, spec_l1Rd_number.f 20 l i = some (v, j) := by
  unfold spec_l1Rd_number.f
  obtain ⟨a, j, e, j0, j1, a0, a1⟩ := below_some hb hl 5 i (by omega) h0 h1
  rw [e]
  simp only [Option.bind_some]
  by_cases c0 : a = 0
  · obtain ⟨b, q, e2, _, _, _, _⟩ := below_some hb hl 300 j (by omega) j0 j1
    rw [if_pos c0, e2]; exact ⟨_, _, rfl⟩
  rw [if_neg c0]
  by_cases c1 : a = 1
  · obtain ⟨b, q, e2, _, _, b0, b1⟩ := below_some hb hl 12 j (by omega) j0 j1
    rw [if_pos c1, e2]
    simp only [Option.bind_some]
    rw [if_pos b0, if_pos (by simp; omega)]
    exact ⟨_, _, rfl⟩
  rw [if_neg c1]
  by_cases c2 : a = 2
  · obtain ⟨v, q, e2, q0, q1⟩ := word_some hb hl 8 20 0 0 j (by omega) (by omega) (by omega) j0 j1
    have e3 : spec_l1Rd_word.f 20 l j = some (v, q) := e2
    obtain ⟨b, p, e4, _, _, b0, b1⟩ := below_some hb hl 60 q (by omega) q0 q1
    rw [if_pos c2, e3]
    simp only [Option.bind_some]
    rw [e4]
    simp only [Option.bind_some]
    rw [if_pos (by rw [IntKind.wrap_u64]; omega)]
    exact ⟨_, _, rfl⟩
  · obtain ⟨b, p, e4, _, _, b0, b1⟩ := below_some hb hl 20 j (by omega) j0 j1
    rw [if_neg c2, e4]; exact ⟨_, _, rfl⟩
theorem draw_some : ∃ r, spec_DrawTurn.f 20 l = some r := by
  unfold spec_DrawTurn.f spec_l1Open.f spec_l1Rd_once.f
  simp only [Option.bind_some]
  obtain ⟨a, j, e, j0, j1, a0, a1⟩ := below_some hb hl 6 0 (by omega) (by omega) (by omega)
  rw [e]
  simp only [Option.bind_some]
  by_cases c : (a == wrap64 (6 - 1)) = true
  · obtain ⟨v, q, e2⟩ := number_some hb hl j j0 j1
    rw [if_pos c, e2]; exact ⟨_, rfl⟩
  · obtain ⟨b, q, e2, _, _, _, _⟩ := below_some hb hl 80 j (by omega) j0 j1
    rw [if_neg c, e2]; exact ⟨_, rfl⟩
end
end Go.Proofs.YtbgacfjocjcffabDoor.Td
