/-
  The pure law of FnExactWave: both sides tell the same.
  Conditions: none.
-/
import Derived.Test.YtoghojneidpkkaaQFnExactWavex4
namespace Go.Proofs.Ytoghojneidpkkaa.Pure
open Go.RowKit Go.Proofs.Ytoghojneidpkkaa.PFnExactWave Go.Proofs.YtoghojneidpkkaaW.PrintWords Go.Proofs.YtoghojneidpkkaaW.PrintLast Go.Proofs.YtoghojneidpkkaaW.PrintMore

theorem rd_nat {xs : List Int} {i : Nat} (h : i < xs.length) : rd xs (i : Int) = xs[i] := by
  unfold rd; rw [Int.toNat_natCast, List.getD_eq_getElem?_getD, List.getElem?_eq_getElem h]; rfl
theorem wrap_nat {i : Nat} (h : i < 9223372036854775807) : wrap64 ((i : Int) + 1) = ((i + 1 : Nat) : Int) := by
  unfold wrap64; omega

theorem toInts_l0 (xs : List Int) (hn : xs.length ≤ 140737488351232) : ∀ (d k i : Nat) (ys : List Int), i + d = xs.length → d < k → ys.length = xs.length → ys.take i = xs.take i →
    laws_toInt64S.l0 k xs ys (i : Int) = some xs := by
  intro d
  induction d with
  | zero =>
    intro k i ys hi hk hl ht
    obtain ⟨k, rfl⟩ : ∃ m, k = m + 1 := ⟨k - 1, by omega⟩
    rw [List.take_of_length_le (by omega), List.take_of_length_le (by omega)] at ht
    simp only [laws_toInt64S.l0]
    rw [if_neg (by omega), ht]
  | succ d ih =>
    intro k i ys hi hk hl ht
    obtain ⟨k, rfl⟩ : ∃ m, k = m + 1 := ⟨k - 1, by omega⟩
    have hlt : i < xs.length := by omega
    simp only [laws_toInt64S.l0]
    rw [if_pos (by omega), if_pos (by omega), if_pos (by omega), rd_nat hlt, wrap_nat (by omega), Int.toNat_natCast]
    refine ih k (i + 1) _ (by omega) (by omega) (by rw [List.length_set]; exact hl) ?_
    rw [List.take_succ_eq_append_getElem (by rw [List.length_set]; omega), List.take_succ_eq_append_getElem hlt, List.take_set_of_le (Nat.le_refl i), ht, List.getElem_set_self]
theorem toInts (xs : List Int) (k : Nat) (hn : xs.length ≤ 1048576) (hk : xs.length < k) : laws_toInt64S.f k xs = some xs := by
  unfold laws_toInt64S.f
  rw [if_pos (by omega), if_pos (by omega)]
  exact toInts_l0 xs (by omega) xs.length k 0 _ (by omega) hk (by simp) rfl

theorem eqInts_l0 (xs : List Int) (hn : xs.length ≤ 140737488351232) : ∀ (d k i : Nat), i + d = xs.length → d < k → laws_eqInt64S.l0 k xs xs (i : Int) = some true := by
  intro d
  induction d with
  | zero =>
    intro k i hi hk
    obtain ⟨k, rfl⟩ : ∃ m, k = m + 1 := ⟨k - 1, by omega⟩
    simp only [laws_eqInt64S.l0]
    rw [if_neg (by omega)]
  | succ d ih =>
    intro k i hi hk
    obtain ⟨k, rfl⟩ : ∃ m, k = m + 1 := ⟨k - 1, by omega⟩
    simp only [laws_eqInt64S.l0]
    rw [if_pos (by omega), if_pos (by omega), if_pos (by omega), if_pos trivial, wrap_nat (by omega)]
    exact ih k (i + 1) (by omega) (by omega)
theorem eqInts (xs : List Int) (k : Nat) (hn : xs.length ≤ 140737488351232) (hk : xs.length < k) : laws_eqInt64S.f k xs xs = some true := by
  unfold laws_eqInt64S.f
  rw [if_pos rfl]
  exact eqInts_l0 xs hn xs.length k 0 (by omega) hk

/-- the numbers from 1 on -/
def marks (n : Nat) : List Int := (List.range n).map fun (i : Nat) => ((i + 1 : Nat) : Int)
theorem marks_length (n : Nat) : (marks n).length = n := by simp [marks]
theorem marks_at {n i : Nat} (h : i < (marks n).length) : (marks n)[i] = ((i + 1 : Nat) : Int) := by simp [marks]
theorem mark_l0 (n : Nat) (hn : n ≤ 140737488351232) : ∀ (d k i : Nat) (ys : List Int), i + d = n → d < k → ys.length = n → ys.take i = (marks n).take i → laws_markInt64S.l0 k ys ((i + 1 : Nat) : Int) (i : Int) = some (((n + 1 : Nat) : Int), marks n) := by
  intro d
  induction d with
  | zero =>
    intro k i ys hi hk hl ht
    obtain ⟨k, rfl⟩ : ∃ m, k = m + 1 := ⟨k - 1, by omega⟩
    rw [List.take_of_length_le (by omega), List.take_of_length_le (by rw [marks_length]; omega)] at ht
    simp only [laws_markInt64S.l0]
    rw [if_neg (by omega), ht, show i = n from by omega]
  | succ d ih =>
    intro k i ys hi hk hl ht
    obtain ⟨k, rfl⟩ : ∃ m, k = m + 1 := ⟨k - 1, by omega⟩
    simp only [laws_markInt64S.l0]
    rw [if_pos (by omega), if_pos (by omega), wrap_nat (by omega), wrap_nat (by omega), Int.toNat_natCast]
    refine ih k (i + 1) _ (by omega) (by omega) (by rw [List.length_set]; exact hl) ?_
    rw [List.take_succ_eq_append_getElem (by rw [List.length_set]; omega), List.take_succ_eq_append_getElem (by rw [marks_length]; omega), List.take_set_of_le (Nat.le_refl i), ht, List.getElem_set_self, marks_at]
theorem mark (ys : List Int) (k : Nat) (hn : ys.length ≤ 140737488351232) (hk : ys.length < k) : laws_markInt64S.f k ys 1 = some (((ys.length + 1 : Nat) : Int), marks ys.length) :=
  mark_l0 ys.length hn ys.length k 0 ys (by omega) hk rfl rfl
theorem held_l0 (n : Nat) (hn : n ≤ 140737488351232) : ∀ (d k i : Nat), i + d = n → d < k → laws_heldInt64S.l0 k (marks n) ((i + 1 : Nat) : Int) (i : Int) = some ((n + 1 : Nat) : Int) := by
  intro d
  induction d with
  | zero =>
    intro k i hi hk
    obtain ⟨k, rfl⟩ : ∃ m, k = m + 1 := ⟨k - 1, by omega⟩
    simp only [laws_heldInt64S.l0]
    rw [if_neg (by rw [marks_length]; omega), show i = n from by omega]
  | succ d ih =>
    intro k i hi hk
    obtain ⟨k, rfl⟩ : ∃ m, k = m + 1 := ⟨k - 1, by omega⟩
    have hlt : i < (marks n).length := by rw [marks_length]; omega
    simp only [laws_heldInt64S.l0]
    rw [if_pos (by rw [marks_length]; omega), if_pos (by omega), rd_nat hlt, marks_at, if_pos rfl, wrap_nat (by omega), wrap_nat (by omega)]
    exact ih k (i + 1) (by omega) (by omega)
theorem held (n k : Nat) (hn : n ≤ 140737488351232) (hk : n < k) : laws_heldInt64S.f k (marks n) 1 = some ((n + 1 : Nat) : Int) := held_l0 n hn n k 0 (by omega) hk

theorem wrap_id {x : Int} (h0 : -9000000000000000000 ≤ x) (h1 : x ≤ 9000000000000000000) : wrap64 x = x := by unfold wrap64; omega
def inR (x : Int) : Bool := decide (-1099511627776 ≤ x) && decide (x ≤ 1099511627776)
theorem shl40 : shl .i64 1 40 = 1099511627776 := by
  unfold shl
  rw [IntKind.wrap_i64]
  decide
theorem spec_in (a b c : Int) : spec_l2In.f a b c = some (decide (b ≤ a) && decide (a ≤ c)) := by
  unfold spec_l2In.f; by_cases h : a ≥ b
  · rw [if_pos h, decide_eq_true (show b ≤ a from h), Bool.true_and]
  · rw [if_neg h, decide_eq_false (show ¬ b ≤ a from h), Bool.false_and]
theorem impl_in_ (a b c : Int) : impl_in.f a b c = some (decide (b ≤ a) && decide (a ≤ c)) := by
  unfold impl_in.f; by_cases h : a ≥ b
  · rw [if_pos h, decide_eq_true (show b ≤ a from h), Bool.true_and]
  · rw [if_neg h, decide_eq_false (show ¬ b ≤ a from h), Bool.false_and]
theorem small_l0 (xs : List Int) (hn : xs.length ≤ 140737488351232) : ∀ (d k i : Nat), i + d = xs.length → d < k → spec_l8Small.l0 k xs 40 (i : Int) = some ((xs.drop i).all inR) := by
  intro d
  induction d with
  | zero =>
    intro k i hi hk
    obtain ⟨k, rfl⟩ : ∃ m, k = m + 1 := ⟨k - 1, by omega⟩
    rw [List.drop_of_length_le (by omega)]
    simp only [spec_l8Small.l0]
    rw [if_neg (by omega)]; rfl
  | succ d ih =>
    intro k i hi hk
    obtain ⟨k, rfl⟩ : ∃ m, k = m + 1 := ⟨k - 1, by omega⟩
    have hlt : i < xs.length := by omega
    rw [List.drop_eq_getElem_cons hlt, List.all_cons]
    simp only [spec_l8Small.l0]
    rw [if_pos (by omega), if_pos (by omega), if_pos (by omega), rd_nat hlt, shl40, wrap_id (x := -1099511627776) (by omega) (by omega)]
    unfold inR
    by_cases h : xs[i] < -1099511627776
    · rw [if_pos h, decide_eq_false (show ¬ -1099511627776 ≤ xs[i] by omega)]; rfl
    · rw [if_neg h, decide_eq_true (show -1099511627776 ≤ xs[i] by omega), Bool.true_and]
      by_cases h2 : xs[i] > 1099511627776
      · rw [if_pos h2, decide_eq_false (show ¬ xs[i] ≤ 1099511627776 by omega)]; rfl
      · rw [if_neg h2, decide_eq_true (show xs[i] ≤ 1099511627776 by omega), wrap_nat (by omega), Bool.true_and]
        exact ih k (i + 1) (by omega) (by omega)
theorem within_l0 (xs : List Int) (hn : xs.length ≤ 140737488351232) : ∀ (d k i : Nat), i + d = xs.length → d < k → impl_within.l0 k 1099511627776 xs (xs.length : Int) (i : Int) = some ((xs.drop i).all inR) := by
  intro d
  induction d with
  | zero =>
    intro k i hi hk
    obtain ⟨k, rfl⟩ : ∃ m, k = m + 1 := ⟨k - 1, by omega⟩
    rw [List.drop_of_length_le (by omega)]
    simp only [impl_within.l0]
    rw [if_neg (by omega)]; rfl
  | succ d ih =>
    intro k i hi hk
    obtain ⟨k, rfl⟩ : ∃ m, k = m + 1 := ⟨k - 1, by omega⟩
    have hlt : i < xs.length := by omega
    rw [List.drop_eq_getElem_cons hlt, List.all_cons]
    simp only [impl_within.l0]
    rw [if_pos (by omega), if_pos (by omega), if_pos (by omega), rd_nat hlt, wrap_id (x := -1099511627776) (by omega) (by omega), impl_in_, wrap_nat (by omega), ih k (i + 1) (by omega) (by omega)]
    show _ = some ((decide (-1099511627776 ≤ xs[i]) && decide (xs[i] ≤ 1099511627776)) && _)
    cases (decide (-1099511627776 ≤ xs[i]) && decide (xs[i] ≤ 1099511627776)) <;> rfl
def okW (l : List Int) : Bool := decide ((l.length : Int) ≤ 4096) && l.all inR
theorem small (xs : List Int) (k : Nat) (hn : xs.length ≤ 140737488351232) (hk : xs.length < k) : spec_l8Small.f k xs 40 = some (okW xs) := by
  unfold spec_l8Small.f okW
  by_cases h : (xs.length : Int) > 4096
  · rw [if_pos h, decide_eq_false (by omega)]; rfl
  · rw [if_neg h, decide_eq_true (by omega), Bool.true_and]
    exact small_l0 xs hn xs.length k 0 (by omega) hk
theorem within_ (xs : List Int) (k : Nat) (hn : xs.length ≤ 140737488351232) (hk : xs.length < k) : impl_within.f k xs 1099511627776 = some (okW xs) := by
  unfold impl_within.f okW
  by_cases h : (xs.length : Int) > 4096
  · rw [if_pos h, decide_eq_false (by omega)]; rfl
  · rw [if_neg h, decide_eq_true (by omega), Bool.true_and]
    exact within_l0 xs hn xs.length k 0 (by omega) hk
theorem cpy_eq (ys out : List Int) (m : Nat) (h : ys.length = m) (hm : m ≤ out.length) : cpy ys out = ys ++ out.drop m := by
  unfold cpy
  rw [Nat.min_eq_left (by omega), h, List.take_of_length_le (by omega)]
/-- What both sides come to from here on. -/
def Both (k : Nat) (steps s rem : Int) (out : List Int) (m : Int) : Prop :=
  ∃ r : List Int, r.length = out.length ∧ spec_Wave.l0 k steps out m s = some (r, true) ∧ impl_Wave.l0 k rem out m = some (r, true)
theorem pass (K : Nat) (steps s rem : Int) (n : Nat) (hn : n ≤ 4096)
    (H : ∀ (k : Nat) (out' : List Int) (m' : Nat), K ≤ k → out'.length = n → m' ≤ n → Both k steps (wrap64 (s + 1)) (wrap64 (rem - 1)) out' (m' : Int)) (out : List Int) (ho : out.length = n) (m : Nat) (hm : m ≤ n) :
    ∀ (d j k : Nat) (means diffs : List Int), d + 2 * j = m ∨ d + 2 * j = m + 1 → means.length = j → diffs.length = j → 2 * j ≤ m → K + d + 2 ≤ k →
    ∃ r : List Int, r.length = n ∧ spec_Wave.l1 k steps out (m : Int) s means diffs ((2 * j : Nat) : Int) = some (r, true) ∧ impl_Wave.l1 k rem out (m : Int) means diffs ((2 * j : Nat) : Int) = some (r, true)
  | d, j, k, means, diffs, hd, h1, h2, hj, hk => by
    obtain ⟨k, rfl⟩ : ∃ q, k = q + 1 := ⟨k - 1, by omega⟩
    simp only [spec_Wave.l1, impl_Wave.l1]
    have w1 : wrap64 (((2 * j : Nat) : Int) + 1) = ((2 * j + 1 : Nat) : Int) := by unfold wrap64; omega
    rw [w1]
    by_cases c : ((2 * j + 1 : Nat) : Int) < (m : Int)
    · rw [if_pos c, if_pos c]
      have w2 : wrap64 (((2 * j : Nat) : Int) + 2) = ((2 * (j + 1) : Nat) : Int) := by unfold wrap64; omega
      rw [if_pos (by omega), if_pos (by omega), if_pos (by omega), if_pos (by omega), if_pos (by omega), if_pos (by omega), if_pos (by omega), if_pos (by omega), if_pos (by omega), if_pos (by omega), w2]
      unfold impl_half.f
      simp only [Option.bind_some]
      rw [if_pos (by omega), if_pos (by omega)]
      obtain ⟨d, rfl⟩ : ∃ q, d = q + 2 := ⟨d - 2, by omega⟩
      exact pass K steps s rem n hn H out ho m hm d (j + 1) k _ _ (by omega) (by rw [List.length_append]; simp; omega) (by rw [List.length_append]; simp; omega) (by omega) (by omega)
    · rw [if_neg c, if_neg c, Int.tmod_eq_emod_of_nonneg (by omega)]
      by_cases e : (m : Int) % 2 = 1
      · rw [if_pos e, if_pos e]
        have w3 : wrap64 ((m : Int) - 1) = ((2 * j : Nat) : Int) := by unfold wrap64; omega
        rw [w3, if_pos (by omega), if_pos (by omega), if_pos (by omega), if_pos (by omega), if_pos (by omega), if_pos (by omega)]
        simp only [Option.bind_some]
        rw [if_pos (by omega), if_pos (by omega)]
        simp only [List.nil_append, List.length_nil, List.length_append, List.length_cons, List.length_drop, Int.toNat_natCast]
        rw [if_pos (by omega), if_pos (by omega), if_pos (by omega), if_pos (by omega), cpy_eq _ out m (by simp; omega) (by omega)]
        have hB := H k (means ++ [rd out ((2 * j : Nat) : Int)] ++ diffs ++ out.drop m) (j + 1) (by omega) (by simp; omega) (by omega)
        obtain ⟨r, hr, a, b⟩ := hB
        refine ⟨r, by rw [hr]; simp; omega, ?_, ?_⟩
        · rw [show means.length + (0 + 1) = j + 1 from by omega]; exact a
        · rw [show means.length + (0 + 1) = j + 1 from by omega]; exact b
      · rw [if_neg e, if_neg e, if_pos (by omega)]
        simp only [Option.bind_some, List.nil_append, List.length_nil, List.length_append, List.length_drop, Int.toNat_natCast]
        rw [if_pos (by omega), if_pos (by omega), if_pos (by omega), if_pos (by omega), if_pos (by omega), cpy_eq _ out m (by simp; omega) (by omega)]
        have hB := H k (means ++ diffs ++ out.drop m) j (by omega) (by simp; omega) (by omega)
        obtain ⟨r, hr, a, b⟩ := hB
        refine ⟨r, by rw [hr]; simp; omega, ?_, ?_⟩
        · rw [h1]; exact a
        · rw [h1]; exact b
theorem steps_ (steps : Int) (hs : steps ≤ 1000) (n : Nat) (hn : n ≤ 4096) (rem : Nat) : ∀ (k : Nat) (out : List Int) (m : Nat) (s : Int), steps = s + rem → 0 ≤ s → rem * 5000 + 10 ≤ k → out.length = n → m ≤ n → Both k steps s (rem : Int) out (m : Int) := by
  induction rem with
  | zero =>
    intro k out m s he h0 hk ho hm
    obtain ⟨k, rfl⟩ : ∃ q, k = q + 2 := ⟨k - 2, by omega⟩
    refine ⟨out, rfl, ?_, ?_⟩
    · simp only [spec_Wave.l0, spec_Wave.j2]
      rw [if_neg (by omega), if_neg (by decide)]
    · simp only [impl_Wave.l0, impl_Wave.j2]
      rw [if_neg (by omega), if_neg (by decide)]
  | succ rem ih =>
    intro k out m s he h0 hk ho hm
    obtain ⟨k, rfl⟩ : ∃ q, k = q + 2 := ⟨k - 2, by omega⟩
    have H : ∀ (k : Nat) (out' : List Int) (m' : Nat), rem * 5000 + 10 ≤ k → out'.length = n → m' ≤ n → Both k steps (wrap64 (s + 1)) (wrap64 (((rem + 1 : Nat) : Int) - 1)) out' (m' : Int) := by
      intro k out' m' hk' ho' hm'
      rw [wrap_id (x := s + 1) (by omega) (by omega), wrap_id (x := ((rem + 1 : Nat) : Int) - 1) (by omega) (by omega), show ((rem + 1 : Nat) : Int) - 1 = (rem : Int) from by omega]
      exact ih k out' m' (s + 1) (by omega) (by omega) hk' ho' hm'
    unfold Both
    simp only [spec_Wave.l0, spec_Wave.j2, impl_Wave.l0, impl_Wave.j2]
    rw [if_pos (show s < steps by omega), if_pos (show ((rem + 1 : Nat) : Int) > 0 by omega)]
    by_cases c : (m : Int) > 1
    · rw [decide_eq_true c, if_pos rfl, if_pos rfl]
      obtain ⟨r, hr, a, b⟩ := pass (rem * 5000 + 10) steps s ((rem + 1 : Nat) : Int) n hn H out ho m hm m 0 k [] [] (.inl (by omega)) rfl rfl (by omega) (by omega)
      exact ⟨r, by rw [hr, ho], a, b⟩
    · rw [decide_eq_false c, if_neg (by decide), if_neg (by decide)]
      exact ⟨out, rfl, rfl, rfl⟩
theorem same (xs : List Int) (t : Int) (k : Nat) (hn : xs.length ≤ 1048576) (hk : 1048700 ≤ k) : ∃ (r : List Int) (b : Bool), r.length ≤ 1048576 ∧ spec_Wave.f k xs t = some (r, b) ∧ impl_Wave.f k xs t = some (r, b) := by
  unfold spec_Wave.f impl_Wave.f
  rw [small xs k (by omega) (by omega), within_ xs k (by omega) (by omega), spec_in, impl_in_]
  obtain ⟨k, rfl⟩ : ∃ q, k = q + 1 := ⟨k - 1, by omega⟩
  have no : spec_Wave.j0 (k + 1) xs t true = some ([], false) ∧ impl_Wave.j0 (k + 1) xs t true = some ([], false) := by
    simp only [spec_Wave.j0, impl_Wave.j0]
    exact ⟨rfl, rfl⟩
  simp only [Option.bind_some]
  by_cases h : okW xs = true
  · rw [if_pos h, if_pos h]
    by_cases h2 : (decide (1 ≤ t) && decide (t ≤ 12)) = true
    · rw [h2]
      simp only [Bool.and_eq_true, decide_eq_true_eq] at h2
      unfold okW at h
      simp only [Bool.and_eq_true, decide_eq_true_eq] at h
      simp only [spec_Wave.j0, impl_Wave.j0]
      rw [if_neg (by decide), if_neg (by decide)]
      simp only [Option.bind_some, List.nil_append, List.length_nil]
      rw [if_pos (by omega), if_pos (by omega)]
      have hS := steps_ t (by omega) xs.length (by omega) t.toNat k xs xs.length 0 (by omega) (by omega) (by omega) rfl (Nat.le_refl _)
      rw [show ((t.toNat : Nat) : Int) = t from by omega] at hS
      obtain ⟨r, hr, a, b⟩ := hS
      exact ⟨r, true, by omega, a, b⟩
    · rw [Bool.eq_false_iff.mpr h2]
      exact ⟨[], false, by simp, no.1, no.2⟩
  · rw [if_neg h, if_neg h]
    exact ⟨[], false, by simp, no.1, no.2⟩
theorem FnExactWave : laws_FnExactWave.Pure := by
  intro a t _ ha _ _
  refine ⟨1048800, ?_⟩
  generalize hk : 1048800 = k
  have hk' : 1048800 ≤ k := by omega
  clear hk
  unfold laws_FnExactWave.f
  by_cases h1 : (a.length : Int) > 1048576
  · rw [if_pos h1]
  rw [if_neg h1]
  obtain ⟨r, b, hr, hs, hi⟩ := same a t k (by omega) (by omega)
  rw [toInts a k (by omega) (by omega)]
  simp only [Option.bind_some]
  rw [hs]
  simp only [Option.bind_some]
  rw [hi]
  simp only [Option.bind_some]
  rw [eqInts r k (by omega) (by omega)]
  simp only [Option.bind_some, if_true, bne_self_eq_false]
  obtain ⟨k, rfl⟩ : ∃ m, k = m + 1 := ⟨k - 1, by omega⟩
  simp only [laws_FnExactWave.j0, Bool.false_eq_true, if_false]
  rw [toInts a k (by omega) (by omega)]
  simp only [Option.bind_some]
  rw [eqInts a k (by omega) (by omega)]
  simp only [Option.bind_some, if_true]
  rw [mark a k (by omega) (by omega)]
  simp only [Option.bind_some]
  rw [if_neg (by omega), eqInts r k (by omega) (by omega)]
  simp only [Option.bind_some, if_true, bne_self_eq_false]
  obtain ⟨k, rfl⟩ : ∃ m, k = m + 1 := ⟨k - 1, by omega⟩
  simp only [laws_FnExactWave.j1, Bool.false_eq_true, if_false]
  rw [mark r k (by omega) (by omega)]
  simp only [Option.bind_some]
  rw [held r.length k (by omega) (by omega)]
  simp only [Option.bind_some]
  obtain ⟨r2, b2, hr2, hs2, hi2⟩ := same a t k (by omega) (by omega)
  have e2 : (r2, b2) = (r, b) := by
    have m1 := spec_Wave.mono a t k _ hs2
    have m2 := spec_Wave.mono a t (k + 1) _ m1
    rw [hs] at m2
    exact (Option.some.inj m2).symm
  cases e2
  rw [if_neg (by omega), if_pos trivial, toInts a k (by omega) (by omega)]
  simp only [Option.bind_some]
  rw [hi2]
  simp only [Option.bind_some]
  rw [eqInts r k (by omega) (by omega)]
  simp only [Option.bind_some, if_true, bne_self_eq_false]
  obtain ⟨k, rfl⟩ : ∃ m, k = m + 1 := ⟨k - 1, by omega⟩
  simp only [laws_FnExactWave.j2, Bool.false_eq_true, if_false]
  rw [held r.length k (by omega) (by omega)]
  simp only [Option.bind_some]
  rw [if_neg (by omega)]
  simp

end Go.Proofs.Ytoghojneidpkkaa.Pure
