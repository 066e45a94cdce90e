/- FnProper over numbers and lists alone: no number told for all scores better than the share. Conditions: none. -/
import Derived.Test.YtfpddfhndifnoaaPFnProperx2
namespace Go.Proofs.Ytfpddfhndifnoaa.Pure
open Go.RowKit Go.Proofs.Ytfpddfhndifnoaa.PFnProper Go.Proofs.YtfpddfhndifnoaaW.PrintWords Go.Proofs.YtfpddfhndifnoaaW.PrintLast Go.Proofs.YtfpddfhndifnoaaW.PrintMore
set_option linter.unusedVariables false
set_option linter.unusedSimpArgs false

theorem rd_nat {xs : List Int} {i : Nat} (h : i < xs.length) : rd xs (i : Int) = xs[i] := by
  unfold rd; rw [Int.toNat_natCast, List.getD_eq_getElem?_getD, List.getElem?_eq_getElem h]; rfl
theorem wrap_nat {i : Nat} (h : i < 9223372036854775807) : wrap64 ((i : Int) + 1) = ((i + 1 : Nat) : Int) := by
  unfold wrap64; omega

theorem specIn (a b c : Int) : spec_l2In.f a b c = some (decide (b ≤ a) && decide (a ≤ c)) := by
  unfold spec_l2In.f; by_cases h : a ≥ b
  · rw [if_pos h, decide_eq_true (show b ≤ a from h), Bool.true_and]
  · rw [if_neg h, decide_eq_false (show ¬ b ≤ a from h), Bool.false_and]
theorem implIn (a b c : Int) : impl_in.f a b c = some (decide (b ≤ a) && decide (a ≤ c)) := by
  unfold impl_in.f; by_cases h : a ≥ b
  · rw [if_pos h, decide_eq_true (show b ≤ a from h), Bool.true_and]
  · rw [if_neg h, decide_eq_false (show ¬ b ≤ a from h), Bool.false_and]
theorem rdT_nat {xs : List S27} {i : Nat} (h : i < xs.length) : rd_T27 xs (i : Int) = xs[i] := by
  unfold rd_T27; rw [Int.toNat_natCast, List.getD_eq_getElem?_getD, List.getElem?_eq_getElem h]; rfl
def told (xs : List S27) : Bool := xs.all fun x => decide (0 ≤ x.f0) && decide (x.f0 ≤ 100)
theorem specTold_l0 (xs : List S27) (hn : xs.length ≤ 140737488351232) : ∀ (d k i : Nat), i + d = xs.length → d < k → spec_l18ToldOk.l0 k xs (i : Int) = some (told (xs.drop i)) := by
  intro d
  induction d with
  | zero =>
    intro k i hi hk
    obtain ⟨k, rfl⟩ : ∃ m, k = m + 1 := ⟨k - 1, by omega⟩
    rw [List.drop_of_length_le (by omega)]
    simp only [spec_l18ToldOk.l0]
    rw [if_neg (by omega)]; rfl
  | succ d ih =>
    intro k i hi hk
    obtain ⟨k, rfl⟩ : ∃ m, k = m + 1 := ⟨k - 1, by omega⟩
    have hlt : i < xs.length := by omega
    rw [List.drop_eq_getElem_cons hlt]
    simp only [spec_l18ToldOk.l0]
    rw [if_pos (by omega), if_pos (by omega), rdT_nat hlt, wrap_nat (by omega), specIn, ih k (i + 1) (by omega) (by omega)]
    unfold told
    rw [List.all_cons]
    cases (decide (0 ≤ xs[i].f0) && decide (xs[i].f0 ≤ 100)) <;> rfl
theorem implTold_l0 (xs : List S27) (hn : xs.length ≤ 140737488351232) : ∀ (d k i : Nat), i + d = xs.length → d < k → impl_probsOk.l0 k xs (xs.length : Int) (i : Int) = some (told (xs.drop i)) := by
  intro d
  induction d with
  | zero =>
    intro k i hi hk
    obtain ⟨k, rfl⟩ : ∃ m, k = m + 1 := ⟨k - 1, by omega⟩
    rw [List.drop_of_length_le (by omega)]
    simp only [impl_probsOk.l0]
    rw [if_neg (by omega)]; rfl
  | succ d ih =>
    intro k i hi hk
    obtain ⟨k, rfl⟩ : ∃ m, k = m + 1 := ⟨k - 1, by omega⟩
    have hlt : i < xs.length := by omega
    rw [List.drop_eq_getElem_cons hlt]
    simp only [impl_probsOk.l0]
    rw [if_pos (by omega), if_pos (by omega), if_pos (by omega), rdT_nat hlt, wrap_nat (by omega), implIn, ih k (i + 1) (by omega) (by omega)]
    unfold told
    rw [List.all_cons]
    cases (decide (0 ≤ xs[i].f0) && decide (xs[i].f0 ≤ 100)) <;> rfl
/-- the score -/
def score : List S27 → Int → Int
  | [], s => s
  | x :: r, s => score r (if x.f1 = true then wrap64 (s + wrap64 (wrap64 (x.f0 - 100) * wrap64 (x.f0 - 100))) else wrap64 (s + wrap64 (x.f0 * x.f0)))
theorem specScore_l0 (xs : List S27) (hn : xs.length ≤ 140737488351232) : ∀ (d k i : Nat) (s : Int), i + d = xs.length → d < k → spec_Brier.l0 k xs s (i : Int) = some (score (xs.drop i) s) := by
  intro d
  induction d with
  | zero =>
    intro k i s hi hk
    obtain ⟨k, rfl⟩ : ∃ m, k = m + 1 := ⟨k - 1, by omega⟩
    rw [List.drop_of_length_le (by omega)]
    simp only [spec_Brier.l0]
    rw [if_neg (by omega)]; rfl
  | succ d ih =>
    intro k i s hi hk
    obtain ⟨k, rfl⟩ : ∃ m, k = m + 1 := ⟨k - 1, by omega⟩
    have hlt : i < xs.length := by omega
    rw [List.drop_eq_getElem_cons hlt]
    simp only [spec_Brier.l0, score]
    rw [if_pos (by omega), if_pos (by omega), rdT_nat hlt, wrap_nat (by omega)]
    split <;> exact ih k (i + 1) _ (by omega) (by omega)
theorem implScore_l0 (xs : List S27) (hn : xs.length ≤ 140737488351232) : ∀ (d k i : Nat) (s : Int), i + d = xs.length → d < k → impl_Brier.l0 k s xs (xs.length : Int) (i : Int) = some (score (xs.drop i) s) := by
  intro d
  induction d with
  | zero =>
    intro k i s hi hk
    obtain ⟨k, rfl⟩ : ∃ m, k = m + 1 := ⟨k - 1, by omega⟩
    rw [List.drop_of_length_le (by omega)]
    simp only [impl_Brier.l0]
    rw [if_neg (by omega)]; rfl
  | succ d ih =>
    intro k i s hi hk
    obtain ⟨k, rfl⟩ : ∃ m, k = m + 1 := ⟨k - 1, by omega⟩
    have hlt : i < xs.length := by omega
    rw [List.drop_eq_getElem_cons hlt]
    simp only [impl_Brier.l0, score]
    rw [if_pos (by omega), if_pos (by omega), if_pos (by omega), rdT_nat hlt, wrap_nat (by omega)]
    split <;> exact ih k (i + 1) _ (by omega) (by omega)
def brierOf (xs : List S27) : Int := if xs.length ≤ 1000 ∧ told xs = true then score xs 0 else -1
theorem specBrier (xs : List S27) (k : Nat) (hn : xs.length ≤ 1048576) (hk : xs.length < k) : spec_Brier.f k xs = some (brierOf xs) := by
  unfold spec_Brier.f spec_l18ToldOk.f brierOf
  have e1 := specTold_l0 xs (by omega) xs.length k 0 (by omega) hk
  have e2 := specScore_l0 xs (by omega) xs.length k 0 0 (by omega) hk
  rw [List.drop_zero] at e1 e2
  by_cases h : xs.length ≤ 1000
  · rw [if_neg (by omega)]
    have e1' : spec_l18ToldOk.l0 k xs 0 = some (told xs) := e1
    have e2' : spec_Brier.l0 k xs 0 0 = some (score xs 0) := e2
    rw [e1', e2']
    cases ht : told xs <;> simp [h]
  · rw [if_pos (by omega)]; simp [h]
theorem implBrier (xs : List S27) (k : Nat) (hn : xs.length ≤ 1048576) (hk : xs.length < k) : impl_Brier.f k xs = some (brierOf xs) := by
  unfold impl_Brier.f impl_probsOk.f brierOf
  have e1 := implTold_l0 xs (by omega) xs.length k 0 (by omega) hk
  have e2 := implScore_l0 xs (by omega) xs.length k 0 0 (by omega) hk
  rw [List.drop_zero] at e1 e2
  by_cases h : xs.length ≤ 1000
  · rw [if_neg (by omega)]
    have e1' : impl_probsOk.l0 k xs (xs.length : Int) 0 = some (told xs) := e1
    have e2' : impl_Brier.l0 k 0 xs (xs.length : Int) 0 = some (score xs 0) := e2
    rw [e1', e2']
    cases ht : told xs <;> simp [h]
  · rw [if_pos (by omega)]; simp [h]

/-- how many are hit -/
def hits : List Bool → Int
  | [] => 0
  | x :: r => (if x = true then 1 else 0) + hits r
theorem hits_bound (fs : List Bool) : 0 ≤ hits fs ∧ hits fs ≤ fs.length := by
  induction fs with
  | nil => exact ⟨Int.le_refl _, Int.le_refl _⟩
  | cons x r ih => simp only [hits, List.length_cons]; split <;> omega
def row (p : Int) (fs : List Bool) : List S27 := fs.map fun b => ⟨p, b⟩
theorem row_length (p : Int) (fs : List Bool) : (row p fs).length = fs.length := by simp [row]
theorem sq_nonneg (x : Int) : 0 ≤ x * x := by
  rcases Int.le_total 0 x with h | h
  · exact Int.mul_nonneg h h
  · exact Int.mul_nonneg_of_nonpos_of_nonpos h h
theorem sq_le {x : Int} (h0 : -100 ≤ x) (h1 : x ≤ 100) : x * x ≤ 10000 := by
  rcases Int.le_total 0 x with h | h
  · have := Int.mul_le_mul h1 h1 h (by omega); omega
  · have : x * x = (-x) * (-x) := by rw [Int.neg_mul_neg]
    have := Int.mul_le_mul (show -x ≤ 100 by omega) (show -x ≤ 100 by omega) (show 0 ≤ -x by omega) (by omega)
    omega
theorem score_row (p : Int) (h0 : 0 ≤ p) (h1 : p ≤ 100) : ∀ (fs : List Bool) (s : Int) (c : Nat), c + fs.length ≤ 1000 → 0 ≤ s → s ≤ 10000 * (c : Int) →
    score (row p fs) s = s + (hits fs * ((p - 100) * (p - 100)) + ((fs.length : Int) - hits fs) * (p * p)) := by
  intro fs
  induction fs with
  | nil => intro s c _ _ _; simp [row, score, hits]
  | cons x r ih =>
    intro s c hc hs0 hs1
    simp only [List.length_cons] at hc
    have a1 := sq_nonneg (p - 100)
    have a2 := sq_le (x := p - 100) (by omega) (by omega)
    have b1 := sq_nonneg p
    have b2 := sq_le (x := p) (by omega) (by omega)
    have e : row p (x :: r) = ⟨p, x⟩ :: row p r := rfl
    rw [e]
    have w1 : wrap64 (p - 100) = p - 100 := by unfold wrap64; omega
    simp only [score, w1, hits, List.length_cons]
    generalize hA : (p - 100) * (p - 100) = A at *
    generalize hB : p * p = B at *
    have w2 : wrap64 A = A := by unfold wrap64; omega
    have w3 : wrap64 B = B := by unfold wrap64; omega
    rw [w2, w3]
    cases x with
    | true =>
      have w4 : wrap64 (s + A) = s + A := by unfold wrap64; omega
      rw [if_pos rfl, if_pos rfl, w4, ih (s + A) (c + 1) (by omega) (by omega) (by omega)]
      push_cast
      grind
    | false =>
      have w4 : wrap64 (s + B) = s + B := by unfold wrap64; omega
      rw [if_neg (by decide), if_neg (by decide), w4, ih (s + B) (c + 1) (by omega) (by omega) (by omega)]
      push_cast
      grind
theorem told_row (p : Int) (h0 : 0 ≤ p) (h1 : p ≤ 100) (fs : List Bool) : told (row p fs) = true := by
  unfold told row
  rw [List.all_map, List.all_eq_true]
  intro x _
  simp [h0, h1]
/-- the score of one number told for all -/
def one (n h p : Int) : Int := h * ((p - 100) * (p - 100)) + (n - h) * (p * p)
theorem brier_row (p : Int) (h0 : 0 ≤ p) (h1 : p ≤ 100) (fs : List Bool) (hl : fs.length ≤ 100) : brierOf (row p fs) = one (fs.length : Int) (hits fs) p := by
  unfold brierOf
  rw [if_pos ⟨by rw [row_length]; omega, told_row p h0 h1 fs⟩, score_row p h0 h1 fs 0 0 (by omega) (by omega) (by omega)]
  unfold one; omega
theorem one_nonneg {n h p : Int} (h0 : 0 ≤ h) (h1 : h ≤ n) : 0 ≤ one n h p := by
  have a := Int.mul_nonneg h0 (sq_nonneg (p - 100))
  have b := Int.mul_nonneg (show 0 ≤ n - h by omega) (sq_nonneg p)
  unfold one; omega
theorem one_apart {n h p b : Int} (hb : n * b = 100 * h) : one n h p = one n h b + n * ((p - b) * (p - b)) := by
  unfold one
  grind
theorem one_best {n h p b : Int} (hn : 1 ≤ n) (hb : n * b = 100 * h) : ¬ one n h p < one n h b ∧ (one n h p = one n h b → p = b) := by
  have e := one_apart (p := p) hb
  have s := sq_nonneg (p - b)
  have m := Int.mul_nonneg (show 0 ≤ n by omega) s
  refine ⟨by omega, fun h => ?_⟩
  have z : n * ((p - b) * (p - b)) = 0 := by omega
  rcases Int.mul_eq_zero.1 z with h1 | h1
  · omega
  · rcases Int.mul_eq_zero.1 h1 with h2 | h2 <;> omega
def flags (h : Int) (n : Nat) : List Bool := (List.range n).map fun (i : Nat) => decide ((i : Int) < h)
theorem flags_succ (h : Int) (n : Nat) : flags h (n + 1) = flags h n ++ [decide ((n : Int) < h)] := by simp [flags, List.range_succ]
theorem flags_length (h : Int) (n : Nat) : (flags h n).length = n := by simp [flags]
theorem hits_append (a : List Bool) (x : Bool) : hits (a ++ [x]) = hits a + if x = true then 1 else 0 := by
  induction a with
  | nil => simp [hits]
  | cons y r ih => simp only [List.cons_append, hits, ih]; omega
theorem hits_flags (h : Int) : ∀ (n : Nat), 0 ≤ h → hits (flags h n) = if (n : Int) ≤ h then (n : Int) else h := by
  intro n
  induction n with
  | zero => intro h0; simp [flags, hits, h0]
  | succ n ih =>
    intro h0
    rw [flags_succ, hits_append, ih h0]
    by_cases h1 : (n : Int) < h
    · rw [if_pos (by omega), if_pos (by simpa using h1), if_pos (by omega)]; omega
    · rw [if_neg (show ¬ decide ((n : Int) < h) = true by simpa using h1)]
      by_cases h2 : (n : Int) ≤ h
      · rw [if_pos h2, if_neg (by omega)]; omega
      · rw [if_neg h2, if_neg (by omega)]; omega
theorem build (n : Nat) (h b : Int) (hn : n ≤ 100) : ∀ (d k i : Nat), i + d = n → d < k → laws_FnProper.l0 k (n : Int) h b (row b (flags h i)) (i : Int) = laws_FnProper.l0 (k - d) (n : Int) h b (row b (flags h n)) (n : Int) := by
  intro d
  induction d with
  | zero =>
    intro k i hi hk
    obtain rfl : i = n := by omega
    rfl
  | succ d ih =>
    intro k i hi hk
    obtain ⟨k, rfl⟩ : ∃ m, k = m + 1 := ⟨k - 1, by omega⟩
    rw [show k + 1 - (d + 1) = k - d from by omega, ← ih k (i + 1) (by omega) (by omega)]
    simp only [laws_FnProper.l0]
    rw [if_pos (by omega), if_pos (by rw [row_length, flags_length]; omega), wrap_nat (by omega), flags_succ]
    unfold row
    rw [List.map_append]
    rfl
theorem refill (n : Nat) (fs : List Bool) (hf : fs.length = n) (hn : n ≤ 100) (x7 x10 : Int) (p : Int) : ∀ (d k i : Nat) (xs : List S27), i + d = n → d < k → xs.length = n → xs.map (fun x => x.f1) = fs → xs.take i = (row p fs).take i →
    laws_FnProper.l2 k (n : Int) x7 xs x10 p (i : Int) = laws_FnProper.l2 (k - d) (n : Int) x7 (row p fs) x10 p (n : Int) := by
  intro d
  induction d with
  | zero =>
    intro k i xs hi hk hl hm ht
    rw [List.take_of_length_le (by omega), List.take_of_length_le (by rw [row_length]; omega)] at ht
    rw [ht, show i = n from by omega]; rfl
  | succ d ih =>
    intro k i xs hi hk hl hm ht
    obtain ⟨k, rfl⟩ : ∃ m, k = m + 1 := ⟨k - 1, by omega⟩
    have hlt : i < xs.length := by omega
    have hlf : i < fs.length := by omega
    have hfi : xs[i].f1 = fs[i] := by
      have : (xs.map (fun x => x.f1))[i]'(by rw [List.length_map]; exact hlt) = fs[i] := by simp only [hm]
      rw [List.getElem_map] at this
      exact this
    rw [show k + 1 - (d + 1) = k - d from by omega, laws_FnProper.l2, if_pos (by omega), if_pos (by omega), if_pos (by omega), rdT_nat hlt, wrap_nat (by omega), Int.toNat_natCast]
    refine ih k (i + 1) _ (by omega) (by omega) (by rw [List.length_set]; exact hl) ?_ ?_
    · rw [List.map_set, hm, hfi, List.set_getElem_self]
    · rw [List.take_succ_eq_append_getElem (by rw [List.length_set]; exact hlt), List.take_succ_eq_append_getElem (by rw [row_length]; exact hlf), List.take_set_of_le (Nat.le_refl i), ht, List.getElem_set_self, hfi]
      congr 1
      simp [row]
theorem loop (n : Nat) (fs : List Bool) (hf : fs.length = n) (h1 : 1 ≤ n) (hn : n ≤ 100) (b : Int) (hb : (n : Int) * b = 100 * hits fs) : ∀ (d k j : Nat) (q : Int), j + d = 101 → d * 200 + 500 < k →
    laws_FnProper.l1 k (n : Int) b (row q fs) (one (n : Int) (hits fs) b) (j : Int) = some true := by
  intro d
  induction d with
  | zero =>
    intro k j q hj hk
    obtain ⟨k, rfl⟩ : ∃ m, k = m + 1 := ⟨k - 1, by omega⟩
    simp only [laws_FnProper.l1]
    rw [if_neg (by omega)]
  | succ d ih =>
    intro k j q hj hk
    obtain ⟨k, rfl⟩ : ∃ m, k = m + 1 := ⟨k - 1, by omega⟩
    simp only [laws_FnProper.l1]
    rw [if_pos (by omega)]
    have e := refill n fs hf hn b (one (n : Int) (hits fs) b) (j : Int) n k 0 (row q fs) (by omega) (by omega) (by rw [row_length]; exact hf) (by simp [row, Function.comp_def]) rfl
    refine e.trans ?_
    obtain ⟨m, hm⟩ : ∃ m, k - n = m + 1 := ⟨k - n - 1, by omega⟩
    rw [hm]
    simp only [laws_FnProper.l2]
    have hbest := one_best (n := (n : Int)) (h := hits fs) (p := (j : Int)) (b := b) (by omega) hb
    rw [if_neg (by omega), implBrier (row (j : Int) fs) m (by rw [row_length]; omega) (by rw [row_length]; omega), brier_row (j : Int) (by omega) (by omega) fs (by omega), hf]
    simp only [Option.bind_some]
    rw [if_neg hbest.1, wrap_nat (by omega), ih m (j + 1) (j : Int) (by omega) (by omega)]
    by_cases hq : one (n : Int) (hits fs) (j : Int) = one (n : Int) (hits fs) b
    · rw [if_pos hq, if_pos (hbest.2 hq)]
    · rw [if_neg hq]
theorem whole (n : Nat) (h b : Int) (h1 : 1 ≤ n) (hn : n ≤ 100) (h0 : 0 ≤ h) (hh : h ≤ n) (hb : (n : Int) * b = 100 * h) (k : Nat) (hk : 40000 < k) : laws_FnProper.l0 k (n : Int) h b [] 0 = some true := by
  have hf : hits (flags h n) = h := by
    rw [hits_flags h n h0]
    split <;> omega
  have b0 : 0 ≤ b := by
    rcases (by omega : b < 0 ∨ 0 ≤ b) with hneg | hge
    · have := Int.mul_le_mul_of_nonneg_left (show b ≤ -1 by omega) (show (0 : Int) ≤ (n : Int) by omega)
      omega
    · exact hge
  have b1 : b ≤ 100 := by
    rcases (by omega : 100 < b ∨ b ≤ 100) with hneg | hge
    · have := Int.mul_le_mul_of_nonneg_left (show 101 ≤ b by omega) (show (0 : Int) ≤ (n : Int) by omega)
      omega
    · exact hge
  have e := build n h b hn n k 0 (by omega) (by omega)
  refine (show laws_FnProper.l0 k (n : Int) h b [] 0 = laws_FnProper.l0 k (n : Int) h b (row b (flags h 0)) ((0 : Nat) : Int) from rfl).trans (e.trans ?_)
  obtain ⟨m, hm⟩ : ∃ m, k - n = m + 1 + 1 := ⟨k - n - 2, by omega⟩
  have hl : (row b (flags h n)).length = n := by rw [row_length, flags_length]
  have ho := one_nonneg (p := b) h0 hh
  rw [hm]
  simp only [laws_FnProper.l0]
  rw [if_neg (by omega), implBrier _ (m + 1) (by omega) (by omega), specBrier _ (m + 1) (by omega) (by omega), brier_row b b0 b1 _ (by rw [flags_length]; exact hn), flags_length, hf]
  simp only [Option.bind_some, if_true, laws_FnProper.j2]
  rw [decide_eq_false (by omega), if_neg (by decide)]
  have := loop n (flags h n) (flags_length h n) h1 hn b (by rw [hf]; exact hb) 101 m 0 b (by omega) (by omega)
  rw [hf] at this
  exact this
theorem FnProper : laws_FnProper.Pure := by
  intro l0 l1 _ _ _ _ hm _
  refine ⟨50000 + 1, ?_⟩
  unfold laws_FnProper.f laws_big.f
  simp only [Option.bind_some]
  by_cases h0 : (l0.length : Int) > 1048576
  · rw [if_pos (by simpa using h0)]; simp only [laws_FnProper.j0, if_true]
  · rw [if_neg (by simpa using h0)]
    simp only [laws_FnProper.j0, Option.bind_some]
    by_cases h1 : (l1.length : Int) > 1048576
    · rw [if_pos (by simpa using h1)]
    · rw [if_neg (by simpa using h1)]
      have hr : 0 ≤ (l0.length : Int) % 9 ∧ (l0.length : Int) % 9 < 9 := by omega
      obtain ⟨r, hr'⟩ : ∃ r : Nat, (l0.length : Int) % 9 = (r : Int) := ⟨((l0.length : Int) % 9).toNat, by omega⟩
      rw [hr'] at hr ⊢
      have hl : ((([1, 2, 4, 5, 10, 20, 25, 50, 100] : List Int).length : Nat) : Int) = 9 := rfl
      rw [if_pos hr.1, hl, if_pos hr.2]
      obtain ⟨n, hn, hn1, hn2, hdiv⟩ : ∃ n : Nat, rd ([1, 2, 4, 5, 10, 20, 25, 50, 100] : List Int) (r : Int) = (n : Int) ∧ 1 ≤ n ∧ n ≤ 100 ∧ ∀ h : Int, 0 ≤ h → (n : Int) * Int.tdiv (100 * h) (n : Int) = 100 * h := by
        have key : ∀ (q : Int) (m : Nat), 1 ≤ m → (m : Int) * q = 100 → ∀ h : Int, 0 ≤ h → (m : Int) * Int.tdiv (100 * h) (m : Int) = 100 * h := by
          intro q m hm hq h _
          have : 100 * h = (m : Int) * (q * h) := by rw [← Int.mul_assoc, hq]
          rw [this, Int.mul_tdiv_cancel_left _ (by omega)]
        rcases (by omega : r = 0 ∨ r = 1 ∨ r = 2 ∨ r = 3 ∨ r = 4 ∨ r = 5 ∨ r = 6 ∨ r = 7 ∨ r = 8) with rfl | rfl | rfl | rfl | rfl | rfl | rfl | rfl | rfl
        · exact ⟨1, rfl, by omega, by omega, key 100 1 (by omega) (by omega)⟩
        · exact ⟨2, rfl, by omega, by omega, key 50 2 (by omega) (by omega)⟩
        · exact ⟨4, rfl, by omega, by omega, key 25 4 (by omega) (by omega)⟩
        · exact ⟨5, rfl, by omega, by omega, key 20 5 (by omega) (by omega)⟩
        · exact ⟨10, rfl, by omega, by omega, key 10 10 (by omega) (by omega)⟩
        · exact ⟨20, rfl, by omega, by omega, key 5 20 (by omega) (by omega)⟩
        · exact ⟨25, rfl, by omega, by omega, key 4 25 (by omega) (by omega)⟩
        · exact ⟨50, rfl, by omega, by omega, key 2 50 (by omega) (by omega)⟩
        · exact ⟨100, rfl, by omega, by omega, key 1 100 (by omega) (by omega)⟩
      rw [hn]
      have w1 : wrap64 ((n : Int) + 1) = (n : Int) + 1 := by unfold wrap64; omega
      rw [w1, if_neg (by omega), if_neg (by omega)]
      have hm0 : 0 ≤ (l1.length : Int) % ((n : Int) + 1) := Int.emod_nonneg _ (by omega)
      have hm1 : (l1.length : Int) % ((n : Int) + 1) < (n : Int) + 1 := Int.emod_lt_of_pos _ (by omega)
      generalize (l1.length : Int) % ((n : Int) + 1) = h at *
      have w2 : wrap64 (100 * h) = 100 * h := by unfold wrap64; omega
      have hb := hdiv h hm0
      rw [w2]
      have hb2 : 0 ≤ Int.tdiv (100 * h) (n : Int) := Int.tdiv_nonneg (by omega) (by omega)
      have hb3 : Int.tdiv (100 * h) (n : Int) ≤ 100 * h := by
        have := Int.mul_le_mul_of_nonneg_right (show (1 : Int) ≤ (n : Int) by omega) hb2
        omega
      have w3 : wrap64 (Int.tdiv (100 * h) (n : Int)) = Int.tdiv (100 * h) (n : Int) := by unfold wrap64; omega
      rw [w3]
      exact whole n h _ hn1 hn2 hm0 (by omega) hb 50000 (by omega)

end Go.Proofs.Ytfpddfhndifnoaa.Pure
