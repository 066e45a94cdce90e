/- FnExactFlood over numbers and lists alone: the two lists of flooded cells are one. Conditions: none. -/
import Derived.Test.YtoghojneidpkkaaQFnExactFloodx3
namespace Go.Proofs.Ytoghojneidpkkaa.Pure
open Go.RowKit Go.Proofs.Ytoghojneidpkkaa.PFnExactFlood Go.Proofs.YtoghojneidpkkaaW.PrintWords Go.Proofs.YtoghojneidpkkaaW.PrintLast Go.Proofs.YtoghojneidpkkaaW.PrintMore
set_option linter.unusedVariables false
set_option linter.unusedSimpArgs false

theorem rd_nat {xs : List Int} {i : Nat} (h : i < xs.length) : rd xs (i : Int) = xs[i] := by
  unfold rd; rw [Int.toNat_natCast, List.getD_eq_getElem?_getD, List.getElem?_eq_getElem h]; rfl
theorem wrap_nat {i : Nat} (h : i < 9223372036854775807) : wrap64 ((i : Int) + 1) = ((i + 1 : Nat) : Int) := by
  unfold wrap64; omega

theorem toInts_l0 (xs : List Int) (hn : xs.length ≤ 140737488351232) : ∀ (d k i : Nat) (ys : List Int), i + d = xs.length → d < k → ys.length = xs.length → ys.take i = xs.take i →
    laws_toInt64S.l0 k xs ys (i : Int) = some xs := by
  intro d
  induction d with
  | zero =>
    intro k i ys hi hk hl ht
    obtain ⟨k, rfl⟩ : ∃ m, k = m + 1 := ⟨k - 1, by omega⟩
    rw [List.take_of_length_le (by omega), List.take_of_length_le (by omega)] at ht
    simp only [laws_toInt64S.l0]
    rw [if_neg (by omega), ht]
  | succ d ih =>
    intro k i ys hi hk hl ht
    obtain ⟨k, rfl⟩ : ∃ m, k = m + 1 := ⟨k - 1, by omega⟩
    have hlt : i < xs.length := by omega
    simp only [laws_toInt64S.l0]
    rw [if_pos (by omega), if_pos (by omega), if_pos (by omega), rd_nat hlt, wrap_nat (by omega), Int.toNat_natCast]
    refine ih k (i + 1) _ (by omega) (by omega) (by rw [List.length_set]; exact hl) ?_
    rw [List.take_succ_eq_append_getElem (by rw [List.length_set]; omega), List.take_succ_eq_append_getElem hlt, List.take_set_of_le (Nat.le_refl i), ht, List.getElem_set_self]
theorem toInts (xs : List Int) (k : Nat) (hn : xs.length ≤ 1048576) (hk : xs.length < k) : laws_toInt64S.f k xs = some xs := by
  unfold laws_toInt64S.f
  rw [if_pos (by omega), if_pos (by omega)]
  exact toInts_l0 xs (by omega) xs.length k 0 _ (by omega) hk (by simp) rfl

theorem eqInts_l0 (xs : List Int) (hn : xs.length ≤ 140737488351232) : ∀ (d k i : Nat), i + d = xs.length → d < k → laws_eqInt64S.l0 k xs xs (i : Int) = some true := by
  intro d
  induction d with
  | zero =>
    intro k i hi hk
    obtain ⟨k, rfl⟩ : ∃ m, k = m + 1 := ⟨k - 1, by omega⟩
    simp only [laws_eqInt64S.l0]
    rw [if_neg (by omega)]
  | succ d ih =>
    intro k i hi hk
    obtain ⟨k, rfl⟩ : ∃ m, k = m + 1 := ⟨k - 1, by omega⟩
    simp only [laws_eqInt64S.l0]
    rw [if_pos (by omega), if_pos (by omega), if_pos (by omega), if_pos trivial, wrap_nat (by omega)]
    exact ih k (i + 1) (by omega) (by omega)
theorem eqInts (xs : List Int) (k : Nat) (hn : xs.length ≤ 140737488351232) (hk : xs.length < k) : laws_eqInt64S.f k xs xs = some true := by
  unfold laws_eqInt64S.f
  rw [if_pos rfl]
  exact eqInts_l0 xs hn xs.length k 0 (by omega) hk

/-- the numbers from 1 on -/
def marks (n : Nat) : List Int := (List.range n).map fun (i : Nat) => ((i + 1 : Nat) : Int)
theorem marks_length (n : Nat) : (marks n).length = n := by simp [marks]
theorem marks_at {n i : Nat} (h : i < (marks n).length) : (marks n)[i] = ((i + 1 : Nat) : Int) := by simp [marks]
theorem mark_l0 (n : Nat) (hn : n ≤ 140737488351232) : ∀ (d k i : Nat) (ys : List Int), i + d = n → d < k → ys.length = n → ys.take i = (marks n).take i → laws_markInt64S.l0 k ys ((i + 1 : Nat) : Int) (i : Int) = some (((n + 1 : Nat) : Int), marks n) := by
  intro d
  induction d with
  | zero =>
    intro k i ys hi hk hl ht
    obtain ⟨k, rfl⟩ : ∃ m, k = m + 1 := ⟨k - 1, by omega⟩
    rw [List.take_of_length_le (by omega), List.take_of_length_le (by rw [marks_length]; omega)] at ht
    simp only [laws_markInt64S.l0]
    rw [if_neg (by omega), ht, show i = n from by omega]
  | succ d ih =>
    intro k i ys hi hk hl ht
    obtain ⟨k, rfl⟩ : ∃ m, k = m + 1 := ⟨k - 1, by omega⟩
    simp only [laws_markInt64S.l0]
    rw [if_pos (by omega), if_pos (by omega), wrap_nat (by omega), wrap_nat (by omega), Int.toNat_natCast]
    refine ih k (i + 1) _ (by omega) (by omega) (by rw [List.length_set]; exact hl) ?_
    rw [List.take_succ_eq_append_getElem (by rw [List.length_set]; omega), List.take_succ_eq_append_getElem (by rw [marks_length]; omega), List.take_set_of_le (Nat.le_refl i), ht, List.getElem_set_self, marks_at]
theorem mark (ys : List Int) (k : Nat) (hn : ys.length ≤ 140737488351232) (hk : ys.length < k) : laws_markInt64S.f k ys 1 = some (((ys.length + 1 : Nat) : Int), marks ys.length) :=
  mark_l0 ys.length hn ys.length k 0 ys (by omega) hk rfl rfl
theorem held_l0 (n : Nat) (hn : n ≤ 140737488351232) : ∀ (d k i : Nat), i + d = n → d < k → laws_heldInt64S.l0 k (marks n) ((i + 1 : Nat) : Int) (i : Int) = some ((n + 1 : Nat) : Int) := by
  intro d
  induction d with
  | zero =>
    intro k i hi hk
    obtain ⟨k, rfl⟩ : ∃ m, k = m + 1 := ⟨k - 1, by omega⟩
    simp only [laws_heldInt64S.l0]
    rw [if_neg (by rw [marks_length]; omega), show i = n from by omega]
  | succ d ih =>
    intro k i hi hk
    obtain ⟨k, rfl⟩ : ∃ m, k = m + 1 := ⟨k - 1, by omega⟩
    have hlt : i < (marks n).length := by rw [marks_length]; omega
    simp only [laws_heldInt64S.l0]
    rw [if_pos (by rw [marks_length]; omega), if_pos (by omega), rd_nat hlt, marks_at, if_pos rfl, wrap_nat (by omega), wrap_nat (by omega)]
    exact ih k (i + 1) (by omega) (by omega)
theorem held (n k : Nat) (hn : n ≤ 140737488351232) (hk : n < k) : laws_heldInt64S.f k (marks n) 1 = some ((n + 1 : Nat) : Int) := held_l0 n hn n k 0 (by omega) hk

theorem markFrom_l0 (n : Nat) (s : Int) (h0 : 0 ≤ s) (h1 : s ≤ 4611686018427387904) (hn : n ≤ 140737488351232) : ∀ (d k i : Nat) (ys : List Int), i + d = n → d < k → ys.length = n → ∃ zs, laws_markInt64S.l0 k ys (s + i) (i : Int) = some (s + n, zs) := by
  intro d
  induction d with
  | zero =>
    intro k i ys hi hk hl
    obtain ⟨k, rfl⟩ : ∃ m, k = m + 1 := ⟨k - 1, by omega⟩
    simp only [laws_markInt64S.l0]
    rw [if_neg (by omega), show i = n from by omega]
    exact ⟨_, rfl⟩
  | succ d ih =>
    intro k i ys hi hk hl
    obtain ⟨k, rfl⟩ : ∃ m, k = m + 1 := ⟨k - 1, by omega⟩
    simp only [laws_markInt64S.l0]
    rw [if_pos (by omega), if_pos (by omega), wrap_nat (by omega), show wrap64 (s + (i : Int) + 1) = s + ((i + 1 : Nat) : Int) from by unfold wrap64; omega]
    exact ih k (i + 1) _ (by omega) (by omega) (by rw [List.length_set]; exact hl)
theorem markFrom (ys : List Int) (s : Int) (k : Nat) (h0 : 0 ≤ s) (h1 : s ≤ 4611686018427387904) (hn : ys.length ≤ 140737488351232) (hk : ys.length < k) : ∃ zs, laws_markInt64S.f k ys s = some (s + ys.length, zs) := by
  have := markFrom_l0 ys.length s h0 h1 hn ys.length k 0 ys (by omega) hk rfl
  simpa [laws_markInt64S.f] using this
/-- The cells from i on that hold more than they may. -/
def fl (w m : List Int) : Nat → Nat → List Int
  | 0, _ => []
  | d + 1, i => if rd w (i : Int) > rd m (i : Int) then (i : Int) :: fl w m d (i + 1) else fl w m d (i + 1)
theorem fl_length (w m : List Int) : ∀ d i, (fl w m d i).length ≤ d
  | 0, _ => Nat.le_refl _
  | d + 1, i => by
    have := fl_length w m d (i + 1)
    unfold fl
    split
    · simp; omega
    · omega
def flood (w m : List Int) : List Int := if w.length ≤ 576 ∧ m.length = w.length then fl w m w.length 0 else []
theorem flood_length (w m : List Int) : (flood w m).length ≤ 576 := by
  unfold flood
  split
  · rename_i h; have := fl_length w m w.length 0; omega
  · simp
theorem spec_l0 (w m : List Int) (a b : Int) (h1 : w.length ≤ 576) (h2 : m.length = w.length) : ∀ (d k i : Nat) (ys : List Int), i + d = w.length → 2 * d + 1 < k → ys.length ≤ i → spec_Flood.l0 k m ys (i : Int) w a b = some (ys ++ fl w m d i) := by
  intro d
  induction d with
  | zero =>
    intro k i ys hi hk hy
    obtain ⟨k, rfl⟩ : ∃ m, k = m + 1 + 1 := ⟨k - 2, by omega⟩
    simp only [spec_Flood.l0]
    rw [if_neg (by omega)]
    simp [spec_Flood.j1, fl]
  | succ d ih =>
    intro k i ys hi hk hy
    obtain ⟨k, rfl⟩ : ∃ m, k = m + 1 + 1 := ⟨k - 2, by omega⟩
    simp only [spec_Flood.l0]
    rw [if_pos (by omega), if_pos (by omega), decide_eq_true (show (m.length : Int) ≤ 576 by omega)]
    simp only [spec_Flood.j1, if_true]
    rw [if_pos (by omega), if_pos (by omega), if_pos (by omega), wrap_nat (by omega)]
    by_cases hc : rd w (i : Int) > rd m (i : Int)
    · rw [if_pos hc, if_pos (by omega), ih k (i + 1) _ (by omega) (by omega) (by simp; omega)]
      simp [fl, if_pos hc]
    · rw [if_neg hc, ih k (i + 1) _ (by omega) (by omega) (by omega)]
      simp [fl, if_neg hc]
theorem impl_l0 (w m : List Int) (h1 : w.length ≤ 576) (h2 : m.length = w.length) : ∀ (d k i : Nat) (ys : List Int), i + d = w.length → d < k → ys.length ≤ i → impl_Flood.l0 k m ys w (w.length : Int) (i : Int) = some (ys ++ fl w m d i) := by
  intro d
  induction d with
  | zero =>
    intro k i ys hi hk hy
    obtain ⟨k, rfl⟩ : ∃ m, k = m + 1 := ⟨k - 1, by omega⟩
    simp only [impl_Flood.l0]
    rw [if_neg (by omega)]
    simp [fl]
  | succ d ih =>
    intro k i ys hi hk hy
    obtain ⟨k, rfl⟩ : ∃ m, k = m + 1 := ⟨k - 1, by omega⟩
    simp only [impl_Flood.l0]
    rw [if_pos (by omega), if_pos (by omega), if_pos (by omega), if_pos (by omega), wrap_nat (by omega)]
    by_cases hc : rd w (i : Int) > rd m (i : Int)
    · rw [if_pos hc, if_pos (by omega), ih k (i + 1) _ (by omega) (by omega) (by simp; omega)]
      simp [fl, if_pos hc]
    · rw [if_neg hc, ih k (i + 1) _ (by omega) (by omega) (by omega)]
      simp [fl, if_neg hc]
theorem specFlood (w m : List Int) (a b : Int) (k : Nat) (hk : 2000 < k) : spec_Flood.f k w a b m = some (flood w m) := by
  unfold spec_Flood.f flood
  by_cases h : w.length ≤ 576 ∧ m.length = w.length
  · rw [if_pos h]
    exact spec_l0 w m a b h.1 h.2 w.length k 0 [] (by omega) (by omega) (by simp)
  · rw [if_neg h]
    obtain ⟨k, rfl⟩ : ∃ m, k = m + 1 + 1 := ⟨k - 2, by omega⟩
    simp only [spec_Flood.l0]
    by_cases h3 : (0 : Int) < (m.length : Int)
    · rw [if_pos h3]
      by_cases h4 : (m.length : Int) = (w.length : Int)
      · rw [if_pos h4, decide_eq_false (show ¬ (m.length : Int) ≤ 576 by omega)]
        simp [spec_Flood.j1]
      · rw [if_neg h4]
        simp [spec_Flood.j1]
    · rw [if_neg h3]
      simp [spec_Flood.j1]
theorem implFlood (w m : List Int) (a b : Int) (k : Nat) (hk : 2000 < k) : impl_Flood.f k w a b m = some (flood w m) := by
  unfold impl_Flood.f flood
  obtain ⟨k, rfl⟩ : ∃ m, k = m + 1 := ⟨k - 1, by omega⟩
  by_cases h : w.length ≤ 576 ∧ m.length = w.length
  · rw [if_pos h, if_neg (by omega), show ((m.length : Int) != (w.length : Int)) = false from by simp; omega]
    simp only [impl_Flood.j0, Bool.false_eq_true, if_false]
    exact impl_l0 w m h.1 h.2 w.length k 0 [] (by omega) (by omega) (by simp)
  · rw [if_neg h]
    by_cases h3 : (w.length : Int) > 576
    · rw [if_pos h3]
      simp [impl_Flood.j0]
    · rw [if_neg h3, show ((m.length : Int) != (w.length : Int)) = true from by simp; omega]
      simp [impl_Flood.j0]
theorem toBook (w : List Int) (a b : Int) (k : Nat) (hn : w.length ≤ 1048576) (hk : w.length < k) : laws_toBook.f k w a b = some (w, a, b) := by
  unfold laws_toBook.f
  rw [toInts w k hn hk]; rfl
theorem FnExactFlood (w : List Int) (a b : Int) (m : List Int) (hw : w.length ≤ 9223372036854775807) : ∃ k, laws_FnExactFlood.f k w a b m = some true := by
  refine ⟨2100000 + 1, ?_⟩
  unfold laws_FnExactFlood.f
  by_cases h1 : (m.length : Int) > 1048576
  · rw [if_pos h1]
  · rw [if_neg h1]
    have hz : wrap64 (1048576 - (w.length : Int)) = 1048576 - (w.length : Int) := by unfold wrap64; omega
    by_cases h2 : w.length ≤ 1048576
    · have e1 : laws_szBook.f w a b 1048576 = some (1048576 - (w.length : Int)) := by
        unfold laws_szBook.f laws_szInt64S.f
        rw [hz, if_neg (by omega)]
        simp only [Option.bind_some]
        rw [if_neg (by omega)]
      obtain ⟨zs, hzs⟩ := markFrom m ((w.length + 1 : Nat) : Int) (2100000 + 1) (by omega) (by omega) (by omega) (by omega)
      have hl := flood_length w m
      have e2 : laws_markBook.f (2100000 + 1) w a b 1 = some (((w.length + 1 : Nat) : Int), marks w.length) := by
        unfold laws_markBook.f
        rw [mark w (2100000 + 1) (by omega) (by omega)]; rfl
      have e3 : laws_eqBook.f (2100000 + 1) w a b w a b = some true := by
        unfold laws_eqBook.f
        rw [eqInts w (2100000 + 1) (by omega) (by omega)]
        simp
      rw [e1]
      simp only [Option.bind_some]
      rw [if_neg (by omega), toBook w a b (2100000 + 1) h2 (by omega)]
      simp only [Option.bind_some]
      rw [toInts m (2100000 + 1) (by omega) (by omega)]
      simp only [Option.bind_some]
      rw [specFlood w m a b (2100000 + 1) (by omega)]
      simp only [Option.bind_some]
      rw [implFlood w m a b (2100000 + 1) (by omega)]
      simp only [Option.bind_some]
      rw [eqInts (flood w m) (2100000 + 1) (by omega) (by omega)]
      simp only [Option.bind_some, if_true]
      rw [e3]
      simp only [Option.bind_some, if_true]
      rw [eqInts m (2100000 + 1) (by omega) (by omega)]
      simp only [Option.bind_some, if_true]
      rw [e2]
      simp only [Option.bind_some]
      rw [hzs]
      simp only [Option.bind_some]
      rw [if_neg (by omega)]
      simp only [laws_FnExactFlood.j0, Bool.not_true, Bool.false_eq_true, if_false]
      rw [mark (flood w m) 2100000 (by omega) (by omega)]
      simp only [Option.bind_some]
      rw [held (flood w m).length 2100000 (by omega) (by omega)]
      simp only [Option.bind_some]
      rw [if_neg (by omega), if_pos trivial, toBook w a b 2100000 h2 (by omega)]
      simp only [Option.bind_some]
      rw [toInts m 2100000 (by omega) (by omega)]
      simp only [Option.bind_some]
      rw [implFlood w m a b 2100000 (by omega)]
      simp only [Option.bind_some]
      rw [eqInts (flood w m) 2100000 (by omega) (by omega)]
      simp only [Option.bind_some, if_true]
      rw [if_neg (by omega)]
    · have e1 : laws_szBook.f w a b 1048576 = some (-1) := by
        unfold laws_szBook.f laws_szInt64S.f
        rw [hz, if_pos (by omega)]
        simp only [Option.bind_some]
        rw [if_pos (by omega)]
      rw [e1]
      simp only [Option.bind_some]
      rw [if_pos (by omega)]

end Go.Proofs.Ytoghojneidpkkaa.Pure
