/- FnExactMixed over numbers and lists alone: the two circular products are one. Conditions: none. -/
import Derived.Test.YtoghojneidpkkaaQFnExactMixedx3
namespace Go.Proofs.Ytoghojneidpkkaa.Pure
open Go.RowKit Go.Proofs.Ytoghojneidpkkaa.PFnExactMixed Go.Proofs.YtoghojneidpkkaaW.PrintWords Go.Proofs.YtoghojneidpkkaaW.PrintLast Go.Proofs.YtoghojneidpkkaaW.PrintMore
set_option linter.unusedVariables false
set_option linter.unusedSimpArgs false

theorem rd_nat {xs : List Int} {i : Nat} (h : i < xs.length) : rd xs (i : Int) = xs[i] := by
  unfold rd; rw [Int.toNat_natCast, List.getD_eq_getElem?_getD, List.getElem?_eq_getElem h]; rfl
theorem wrap_nat {i : Nat} (h : i < 9223372036854775807) : wrap64 ((i : Int) + 1) = ((i + 1 : Nat) : Int) := by
  unfold wrap64; omega

theorem toInts_l0 (xs : List Int) (hn : xs.length ≤ 140737488351232) : ∀ (d k i : Nat) (ys : List Int), i + d = xs.length → d < k → ys.length = xs.length → ys.take i = xs.take i →
    laws_toInt64S.l0 k xs ys (i : Int) = some xs := by
  intro d
  induction d with
  | zero =>
    intro k i ys hi hk hl ht
    obtain ⟨k, rfl⟩ : ∃ m, k = m + 1 := ⟨k - 1, by omega⟩
    rw [List.take_of_length_le (by omega), List.take_of_length_le (by omega)] at ht
    simp only [laws_toInt64S.l0]
    rw [if_neg (by omega), ht]
  | succ d ih =>
    intro k i ys hi hk hl ht
    obtain ⟨k, rfl⟩ : ∃ m, k = m + 1 := ⟨k - 1, by omega⟩
    have hlt : i < xs.length := by omega
    simp only [laws_toInt64S.l0]
    rw [if_pos (by omega), if_pos (by omega), if_pos (by omega), rd_nat hlt, wrap_nat (by omega), Int.toNat_natCast]
    refine ih k (i + 1) _ (by omega) (by omega) (by rw [List.length_set]; exact hl) ?_
    rw [List.take_succ_eq_append_getElem (by rw [List.length_set]; omega), List.take_succ_eq_append_getElem hlt, List.take_set_of_le (Nat.le_refl i), ht, List.getElem_set_self]
theorem toInts (xs : List Int) (k : Nat) (hn : xs.length ≤ 1048576) (hk : xs.length < k) : laws_toInt64S.f k xs = some xs := by
  unfold laws_toInt64S.f
  rw [if_pos (by omega), if_pos (by omega)]
  exact toInts_l0 xs (by omega) xs.length k 0 _ (by omega) hk (by simp) rfl

theorem eqInts_l0 (xs : List Int) (hn : xs.length ≤ 140737488351232) : ∀ (d k i : Nat), i + d = xs.length → d < k → laws_eqInt64S.l0 k xs xs (i : Int) = some true := by
  intro d
  induction d with
  | zero =>
    intro k i hi hk
    obtain ⟨k, rfl⟩ : ∃ m, k = m + 1 := ⟨k - 1, by omega⟩
    simp only [laws_eqInt64S.l0]
    rw [if_neg (by omega)]
  | succ d ih =>
    intro k i hi hk
    obtain ⟨k, rfl⟩ : ∃ m, k = m + 1 := ⟨k - 1, by omega⟩
    simp only [laws_eqInt64S.l0]
    rw [if_pos (by omega), if_pos (by omega), if_pos (by omega), if_pos trivial, wrap_nat (by omega)]
    exact ih k (i + 1) (by omega) (by omega)
theorem eqInts (xs : List Int) (k : Nat) (hn : xs.length ≤ 140737488351232) (hk : xs.length < k) : laws_eqInt64S.f k xs xs = some true := by
  unfold laws_eqInt64S.f
  rw [if_pos rfl]
  exact eqInts_l0 xs hn xs.length k 0 (by omega) hk

/-- the numbers from 1 on -/
def marks (n : Nat) : List Int := (List.range n).map fun (i : Nat) => ((i + 1 : Nat) : Int)
theorem marks_length (n : Nat) : (marks n).length = n := by simp [marks]
theorem marks_at {n i : Nat} (h : i < (marks n).length) : (marks n)[i] = ((i + 1 : Nat) : Int) := by simp [marks]
theorem mark_l0 (n : Nat) (hn : n ≤ 140737488351232) : ∀ (d k i : Nat) (ys : List Int), i + d = n → d < k → ys.length = n → ys.take i = (marks n).take i → laws_markInt64S.l0 k ys ((i + 1 : Nat) : Int) (i : Int) = some (((n + 1 : Nat) : Int), marks n) := by
  intro d
  induction d with
  | zero =>
    intro k i ys hi hk hl ht
    obtain ⟨k, rfl⟩ : ∃ m, k = m + 1 := ⟨k - 1, by omega⟩
    rw [List.take_of_length_le (by omega), List.take_of_length_le (by rw [marks_length]; omega)] at ht
    simp only [laws_markInt64S.l0]
    rw [if_neg (by omega), ht, show i = n from by omega]
  | succ d ih =>
    intro k i ys hi hk hl ht
    obtain ⟨k, rfl⟩ : ∃ m, k = m + 1 := ⟨k - 1, by omega⟩
    simp only [laws_markInt64S.l0]
    rw [if_pos (by omega), if_pos (by omega), wrap_nat (by omega), wrap_nat (by omega), Int.toNat_natCast]
    refine ih k (i + 1) _ (by omega) (by omega) (by rw [List.length_set]; exact hl) ?_
    rw [List.take_succ_eq_append_getElem (by rw [List.length_set]; omega), List.take_succ_eq_append_getElem (by rw [marks_length]; omega), List.take_set_of_le (Nat.le_refl i), ht, List.getElem_set_self, marks_at]
theorem mark (ys : List Int) (k : Nat) (hn : ys.length ≤ 140737488351232) (hk : ys.length < k) : laws_markInt64S.f k ys 1 = some (((ys.length + 1 : Nat) : Int), marks ys.length) :=
  mark_l0 ys.length hn ys.length k 0 ys (by omega) hk rfl rfl
theorem held_l0 (n : Nat) (hn : n ≤ 140737488351232) : ∀ (d k i : Nat), i + d = n → d < k → laws_heldInt64S.l0 k (marks n) ((i + 1 : Nat) : Int) (i : Int) = some ((n + 1 : Nat) : Int) := by
  intro d
  induction d with
  | zero =>
    intro k i hi hk
    obtain ⟨k, rfl⟩ : ∃ m, k = m + 1 := ⟨k - 1, by omega⟩
    simp only [laws_heldInt64S.l0]
    rw [if_neg (by rw [marks_length]; omega), show i = n from by omega]
  | succ d ih =>
    intro k i hi hk
    obtain ⟨k, rfl⟩ : ∃ m, k = m + 1 := ⟨k - 1, by omega⟩
    have hlt : i < (marks n).length := by rw [marks_length]; omega
    simp only [laws_heldInt64S.l0]
    rw [if_pos (by rw [marks_length]; omega), if_pos (by omega), rd_nat hlt, marks_at, if_pos rfl, wrap_nat (by omega), wrap_nat (by omega)]
    exact ih k (i + 1) (by omega) (by omega)
theorem held (n k : Nat) (hn : n ≤ 140737488351232) (hk : n < k) : laws_heldInt64S.f k (marks n) 1 = some ((n + 1 : Nat) : Int) := held_l0 n hn n k 0 (by omega) hk
theorem markFrom_l0 (n : Nat) (s : Int) (h0 : 0 ≤ s) (h1 : s ≤ 4611686018427387904) (hn : n ≤ 140737488351232) : ∀ (d k i : Nat) (ys : List Int), i + d = n → d < k → ys.length = n → ∃ zs, laws_markInt64S.l0 k ys (s + i) (i : Int) = some (s + n, zs) := by
  intro d
  induction d with
  | zero =>
    intro k i ys hi hk hl
    obtain ⟨k, rfl⟩ : ∃ m, k = m + 1 := ⟨k - 1, by omega⟩
    simp only [laws_markInt64S.l0]
    rw [if_neg (by omega), show i = n from by omega]
    exact ⟨_, rfl⟩
  | succ d ih =>
    intro k i ys hi hk hl
    obtain ⟨k, rfl⟩ : ∃ m, k = m + 1 := ⟨k - 1, by omega⟩
    simp only [laws_markInt64S.l0]
    rw [if_pos (by omega), if_pos (by omega), wrap_nat (by omega), show wrap64 (s + (i : Int) + 1) = s + ((i + 1 : Nat) : Int) from by unfold wrap64; omega]
    exact ih k (i + 1) _ (by omega) (by omega) (by rw [List.length_set]; exact hl)
theorem markFrom (ys : List Int) (s : Int) (k : Nat) (h0 : 0 ≤ s) (h1 : s ≤ 4611686018427387904) (hn : ys.length ≤ 140737488351232) (hk : ys.length < k) : ∃ zs, laws_markInt64S.f k ys s = some (s + ys.length, zs) := by
  have := markFrom_l0 ys.length s h0 h1 hn ys.length k 0 ys (by omega) hk rfl
  simpa [laws_markInt64S.f] using this

def within (lo hi : Int) (xs : List Int) : Bool := xs.all fun x => decide (lo ≤ x) && decide (x ≤ hi)
theorem specIn (a b c : Int) : spec_l2In.f a b c = some (decide (b ≤ a) && decide (a ≤ c)) := by
  unfold spec_l2In.f; by_cases h : a ≥ b
  · rw [if_pos h, decide_eq_true (show b ≤ a from h), Bool.true_and]
  · rw [if_neg h, decide_eq_false (show ¬ b ≤ a from h), Bool.false_and]
theorem l15_l0 (lo hi : Int) (xs : List Int) (hn : xs.length ≤ 140737488351232) : ∀ (d k i : Nat), i + d = xs.length → d < k → spec_l15All.l0 k xs lo hi (i : Int) = some (within lo hi (xs.drop i)) := by
  intro d
  induction d with
  | zero =>
    intro k i hi' hk
    obtain ⟨k, rfl⟩ : ∃ m, k = m + 1 := ⟨k - 1, by omega⟩
    rw [List.drop_of_length_le (by omega)]
    simp only [spec_l15All.l0]
    rw [if_neg (by omega)]; rfl
  | succ d ih =>
    intro k i hi' hk
    obtain ⟨k, rfl⟩ : ∃ m, k = m + 1 := ⟨k - 1, by omega⟩
    have hlt : i < xs.length := by omega
    rw [List.drop_eq_getElem_cons hlt]
    simp only [spec_l15All.l0]
    rw [if_pos (by omega), if_pos (by omega), rd_nat hlt, wrap_nat (by omega), specIn, ih k (i + 1) (by omega) (by omega)]
    unfold within
    rw [List.all_cons]
    cases (decide (lo ≤ xs[i]) && decide (xs[i] ≤ hi)) <;> rfl
theorem l15 (lo hi n : Int) (xs : List Int) (k : Nat) (hn : xs.length ≤ 140737488351232) (hk : xs.length < k) : spec_l15All.f k xs n lo hi = some (decide ((xs.length : Int) = n) && within lo hi xs) := by
  unfold spec_l15All.f
  by_cases h : (xs.length : Int) = n
  · rw [if_pos h, decide_eq_true h, Bool.true_and]
    exact l15_l0 lo hi xs hn xs.length k 0 (by omega) hk
  · rw [if_neg h, decide_eq_false h, Bool.false_and]

theorem implIn (a b c : Int) : impl_in.f a b c = some (decide (b ≤ a) && decide (a ≤ c)) := by
  unfold impl_in.f; by_cases h : a ≥ b
  · rw [if_pos h, decide_eq_true (show b ≤ a from h), Bool.true_and]
  · rw [if_neg h, decide_eq_false (show ¬ b ≤ a from h), Bool.false_and]
theorem each_l0 (lo hi : Int) (xs : List Int) (hn : xs.length ≤ 140737488351232) : ∀ (d k i : Nat), i + d = xs.length → d < k → impl_each.l0 k lo hi xs (xs.length : Int) (i : Int) = some (within lo hi (xs.drop i)) := by
  intro d
  induction d with
  | zero =>
    intro k i hi' hk
    obtain ⟨k, rfl⟩ : ∃ m, k = m + 1 := ⟨k - 1, by omega⟩
    rw [List.drop_of_length_le (by omega)]
    simp only [impl_each.l0]
    rw [if_neg (by omega)]; rfl
  | succ d ih =>
    intro k i hi' hk
    obtain ⟨k, rfl⟩ : ∃ m, k = m + 1 := ⟨k - 1, by omega⟩
    have hlt : i < xs.length := by omega
    rw [List.drop_eq_getElem_cons hlt]
    simp only [impl_each.l0]
    rw [if_pos (by omega), if_pos (by omega), if_pos (by omega), rd_nat hlt, wrap_nat (by omega), implIn, ih k (i + 1) (by omega) (by omega)]
    unfold within
    rw [List.all_cons]
    cases (decide (lo ≤ xs[i]) && decide (xs[i] ≤ hi)) <;> rfl
theorem each (lo hi n : Int) (xs : List Int) (k : Nat) (hn : xs.length ≤ 140737488351232) (hk : xs.length < k) : impl_each.f k xs n lo hi = some (decide ((xs.length : Int) = n) && within lo hi xs) := by
  unfold impl_each.f
  by_cases h : (xs.length : Int) = n
  · rw [if_pos h, decide_eq_true h, Bool.true_and]
    exact each_l0 lo hi xs hn xs.length k 0 (by omega) hk
  · rw [if_neg h, decide_eq_false h, Bool.false_and]

def ok (xs : List Int) : Bool := decide (1 ≤ xs.length) && (decide (xs.length ≤ 64) && (decide ((Go.bits .and .i64 (xs.length : Int) (wrap64 ((xs.length : Int) - 1))) = 0) && within 0 65536 xs))
theorem specOk (xs : List Int) (k : Nat) (hn : xs.length ≤ 1048576) (hk : xs.length < k) : spec_l16RowOk.f k xs = some (ok xs) := by
  unfold spec_l16RowOk.f ok
  by_cases h1 : 1 ≤ xs.length
  · rw [if_neg (by omega), decide_eq_true h1, Bool.true_and]
    by_cases h2 : xs.length ≤ 64
    · rw [if_neg (by omega), decide_eq_true h2, Bool.true_and]
      by_cases h3 : (Go.bits .and .i64 (xs.length : Int) (wrap64 ((xs.length : Int) - 1))) = 0
      · rw [if_pos h3, decide_eq_true h3, Bool.true_and, l15 0 65536 _ xs k (by omega) hk, decide_eq_true rfl, Bool.true_and]; rfl
      · rw [if_neg h3, decide_eq_false h3, Bool.false_and]
    · rw [if_pos (by omega), decide_eq_false h2, Bool.false_and]
  · rw [if_pos (by omega), decide_eq_false h1, Bool.false_and]
theorem implOk (xs : List Int) (k : Nat) (hn : xs.length ≤ 1048576) (hk : xs.length < k) : impl_residues.f k xs = some (ok xs) := by
  unfold impl_residues.f ok
  by_cases h1 : 1 ≤ xs.length
  · rw [if_pos (by omega), decide_eq_true h1, Bool.true_and]
    by_cases h2 : xs.length ≤ 64
    · rw [if_pos (by omega), decide_eq_true h2, Bool.true_and]
      by_cases h3 : (Go.bits .and .i64 (xs.length : Int) (wrap64 ((xs.length : Int) - 1))) = 0
      · rw [if_pos h3, decide_eq_true h3, Bool.true_and, each 0 65536 _ xs k (by omega) hk, decide_eq_true rfl, Bool.true_and]; rfl
      · rw [if_neg h3, decide_eq_false h3, Bool.false_and]
    · rw [if_neg (by omega), decide_eq_false h2, Bool.false_and]
  · rw [if_neg (by omega), decide_eq_false h1, Bool.false_and]

def tmx (a b : List Int) (n k i acc : Int) : Int := Int.tmod (wrap64 (acc + (wrap64 ((rd a i) * (rd b (Int.tmod (wrap64 ((wrap64 (k - i)) + n)) n)))))) 65537
def su (a b : List Int) (n k : Int) : Nat → Nat → Int → Int
  | 0, _, acc => acc
  | d + 1, i, acc => su a b n k d (i + 1) (tmx a b n k (i : Int) acc)
def mk (a b : List Int) (n : Nat) : Nat → Nat → List Int
  | 0, _ => []
  | d + 1, k => su a b (n : Int) (k : Int) n 0 0 :: mk a b n d (k + 1)
theorem mk_length (a b : List Int) (n : Nat) : ∀ d k, (mk a b n d k).length = d
  | 0, _ => rfl
  | d + 1, k => by simp [mk, mk_length a b n d (k + 1)]
theorem idx (n k i : Nat) (hn : n ≤ 64) (hk : k < n) (hi : i < n) : 0 ≤ Int.tmod (wrap64 ((wrap64 ((k : Int) - (i : Int))) + (n : Int))) (n : Int) ∧ Int.tmod (wrap64 ((wrap64 ((k : Int) - (i : Int))) + (n : Int))) (n : Int) < (n : Int) := by
  have h1 : wrap64 ((k : Int) - (i : Int)) = (k : Int) - (i : Int) := by unfold wrap64; omega
  have h2 : wrap64 ((k : Int) - (i : Int) + (n : Int)) = (k : Int) - (i : Int) + (n : Int) := by unfold wrap64; omega
  rw [h1, h2, Int.tmod_eq_emod_of_nonneg (by omega)]
  exact ⟨Int.emod_nonneg _ (by omega), Int.emod_lt_of_pos _ (by omega)⟩

theorem spec_l1 (a b : List Int) (n : Nat) (ha : a.length = n) (hb : b.length = n) (hn : n ≤ 64) (k : Nat) (hk : k < n) (ys : List Int) (hy : ys.length = k) : ∀ (d f i : Nat) (acc : Int), i + d = n → d < f → spec_Mixed.l1 f a b (n : Int) ys (k : Int) acc (i : Int) = spec_Mixed.l0 (f - d - 1) a b (n : Int) (ys ++ [su a b (n : Int) (k : Int) d i acc]) ((k + 1 : Nat) : Int) := by
  intro d
  induction d with
  | zero =>
    intro f i acc hi hf
    obtain ⟨f, rfl⟩ : ∃ m, f = m + 1 := ⟨f - 1, by omega⟩
    simp only [spec_Mixed.l1, su]
    rw [if_neg (by omega), if_pos (by omega), wrap_nat (by omega)]; rfl
  | succ d ih =>
    intro f i acc hi hf
    obtain ⟨f, rfl⟩ : ∃ m, f = m + 1 := ⟨f - 1, by omega⟩
    obtain ⟨i1, i2⟩ := idx n k i hn hk (by omega)
    simp only [spec_Mixed.l1, su]
    rw [if_pos (by omega), if_pos (by omega), if_pos (by omega), if_neg (by omega), if_pos i1, if_pos (by rw [hb]; exact i2), wrap_nat (by omega), show f + 1 - (d + 1) - 1 = f - d - 1 from by omega]
    exact ih f (i + 1) _ (by omega) (by omega)
theorem spec_l0 (a b : List Int) (n : Nat) (ha : a.length = n) (hb : b.length = n) (hn : n ≤ 64) : ∀ (d f k : Nat) (ys : List Int), k + d = n → d * 70 < f → ys.length = k → spec_Mixed.l0 f a b (n : Int) ys (k : Int) = some (ys ++ mk a b n d k, true) := by
  intro d
  induction d with
  | zero =>
    intro f k ys hk hf hy
    obtain ⟨f, rfl⟩ : ∃ m, f = m + 1 := ⟨f - 1, by omega⟩
    simp only [spec_Mixed.l0, mk]
    rw [if_neg (by omega), List.append_nil]
  | succ d ih =>
    intro f k ys hk hf hy
    obtain ⟨f, rfl⟩ : ∃ m, f = m + 1 := ⟨f - 1, by omega⟩
    simp only [spec_Mixed.l0, mk]
    rw [if_pos (by omega)]
    have h := spec_l1 a b n ha hb hn k (by omega) ys hy n f 0 0 (by omega) (by omega)
    refine (show spec_Mixed.l1 f a b (n : Int) ys (k : Int) 0 0 = _ from h).trans ?_
    rw [ih _ (k + 1) _ (by omega) (by omega) (by simp; omega)]
    simp

theorem set_mid (dn : List Int) (v x : Int) (rest : List Int) : (dn ++ x :: rest).set dn.length v = dn ++ v :: rest := by simp
theorem rd_mid (dn : List Int) (x : Int) (rest : List Int) : rd (dn ++ x :: rest) (dn.length : Int) = x := by
  unfold rd; rw [Int.toNat_natCast]; simp
theorem impl_l1 (a b : List Int) (n : Nat) (ha : a.length = n) (hb : b.length = n) (hn : n ≤ 64) (dn rest : List Int) (hk : dn.length < n) : ∀ (d f i : Nat) (acc : Int), i + d = n → d < f → impl_Mixed.l1 f a b (n : Int) (dn ++ acc :: rest) (dn.length : Int) (n : Int) (dn.length : Int) (n : Int) (i : Int) = impl_Mixed.l0 (f - d - 1) a b (n : Int) (dn ++ su a b (n : Int) (dn.length : Int) d i acc :: rest) (n : Int) ((dn.length + 1 : Nat) : Int) := by
  intro d
  induction d with
  | zero =>
    intro f i acc hi hf
    obtain ⟨f, rfl⟩ : ∃ m, f = m + 1 := ⟨f - 1, by omega⟩
    simp only [impl_Mixed.l1, su]
    rw [if_neg (by omega), wrap_nat (by omega)]; rfl
  | succ d ih =>
    intro f i acc hi hf
    obtain ⟨f, rfl⟩ : ∃ m, f = m + 1 := ⟨f - 1, by omega⟩
    obtain ⟨i1, i2⟩ := idx n dn.length i hn hk (by omega)
    simp only [impl_Mixed.l1, su]
    rw [if_pos (by omega), if_pos (by omega), if_pos (by simp; omega), if_pos (by omega), if_pos (by omega), if_neg (by omega), if_pos i1, if_pos (by rw [hb]; exact i2), wrap_nat (by omega), Int.toNat_natCast, set_mid, rd_mid, show f + 1 - (d + 1) - 1 = f - d - 1 from by omega]
    exact ih f (i + 1) _ (by omega) (by omega)
theorem impl_l0 (a b : List Int) (n : Nat) (ha : a.length = n) (hb : b.length = n) (hn : n ≤ 64) : ∀ (d f : Nat) (dn : List Int), dn.length + d = n → d * 70 < f → impl_Mixed.l0 f a b (n : Int) (dn ++ List.replicate d 0) (n : Int) (dn.length : Int) = some (dn ++ mk a b n d dn.length, true) := by
  intro d
  induction d with
  | zero =>
    intro f dn hk hf
    obtain ⟨f, rfl⟩ : ∃ m, f = m + 1 := ⟨f - 1, by omega⟩
    simp only [impl_Mixed.l0, mk]
    rw [if_neg (by omega)]; rfl
  | succ d ih =>
    intro f dn hk hf
    obtain ⟨f, rfl⟩ : ∃ m, f = m + 1 := ⟨f - 1, by omega⟩
    simp only [impl_Mixed.l0, mk, ha]
    rw [if_pos (by omega), List.replicate_succ]
    have h := impl_l1 a b n ha hb hn dn (List.replicate d 0) (by omega) n f 0 0 (by omega) (by omega)
    refine (show impl_Mixed.l1 f a b (n : Int) (dn ++ 0 :: List.replicate d 0) (dn.length : Int) (n : Int) (dn.length : Int) (n : Int) 0 = _ from h).trans ?_
    have h2 := ih (f - n - 1) (dn ++ [su a b (n : Int) (dn.length : Int) n 0 0]) (by simp; omega) (by omega)
    simp only [List.length_append, List.length_cons, List.length_nil, Nat.zero_add, List.append_assoc, List.cons_append, List.nil_append] at h2
    exact h2
def mixed (a b : List Int) : List Int × Bool := if ok a = true ∧ ok b = true ∧ a.length = b.length then (mk a b a.length a.length 0, true) else ([], false)
theorem ok_len {a : List Int} (h : ok a = true) : a.length ≤ 64 := by
  unfold ok at h
  simp only [Bool.and_eq_true, decide_eq_true_eq] at h
  exact h.2.1
theorem mixed_length (a b : List Int) : (mixed a b).1.length ≤ 64 := by
  unfold mixed
  split
  · rename_i h; simp only [mk_length]; exact ok_len h.1
  · simp
theorem specMixed (a b : List Int) (k : Nat) (ha : a.length ≤ 1048576) (hb : b.length ≤ 1048576) (hk : 1048580 < k) : spec_Mixed.f k a b = some (mixed a b) := by
  unfold spec_Mixed.f mixed
  rw [specOk a k ha (by omega)]
  simp only [Option.bind_some]
  obtain ⟨k, rfl⟩ : ∃ m, k = m + 1 := ⟨k - 1, by omega⟩
  by_cases h1 : ok a = true
  · rw [if_pos h1, specOk b (k + 1) hb (by omega)]
    simp only [Option.bind_some]
    by_cases h2 : ok b = true
    · rw [if_pos h2]
      by_cases h3 : a.length = b.length
      · rw [if_pos ⟨h1, h2, h3⟩, show ((a.length : Int) != (b.length : Int)) = false from by simp; omega]
        simp only [spec_Mixed.j0, Bool.false_eq_true, if_false]
        have := ok_len h1
        exact spec_l0 a b a.length rfl h3.symm (ok_len h1) a.length k 0 [] (by omega) (by omega) rfl
      · rw [if_neg (fun h => h3 h.2.2), show ((a.length : Int) != (b.length : Int)) = true from by simp; omega]
        simp [spec_Mixed.j0]
    · rw [if_neg h2, if_neg (fun h => h2 h.2.1)]
      simp [spec_Mixed.j0]
  · rw [if_neg h1, if_neg (fun h => h1 h.1)]
    simp [spec_Mixed.j0]
theorem implMixed (a b : List Int) (k : Nat) (ha : a.length ≤ 1048576) (hb : b.length ≤ 1048576) (hk : 1048580 < k) : impl_Mixed.f k a b = some (mixed a b) := by
  unfold impl_Mixed.f mixed
  rw [implOk a k ha (by omega)]
  simp only [Option.bind_some]
  obtain ⟨k, rfl⟩ : ∃ m, k = m + 1 := ⟨k - 1, by omega⟩
  by_cases h1 : ok a = true
  · rw [if_pos h1, implOk b (k + 1) hb (by omega)]
    simp only [Option.bind_some]
    by_cases h2 : ok b = true
    · rw [if_pos h2]
      by_cases h3 : a.length = b.length
      · rw [if_pos ⟨h1, h2, h3⟩, show ((a.length : Int) != (b.length : Int)) = false from by simp; omega]
        have h4 := ok_len h1
        have h5 := impl_l0 a b a.length rfl h3.symm h4 a.length k [] (by simp) (by omega)
        simp only [impl_Mixed.j0, Bool.false_eq_true, if_false]
        rw [if_pos (by omega), if_pos (by omega)]
        simp only [Option.bind_some, List.length_replicate, Int.toNat_natCast]
        exact h5
      · rw [if_neg (fun h => h3 h.2.2), show ((a.length : Int) != (b.length : Int)) = true from by simp; omega]
        simp [impl_Mixed.j0]
    · rw [if_neg h2, if_neg (fun h => h2 h.2.1)]
      simp [impl_Mixed.j0]
  · rw [if_neg h1, if_neg (fun h => h1 h.1)]
    simp [impl_Mixed.j0]

theorem FnExactMixed : laws_FnExactMixed.Pure := by
  intro a b _ _ _ _ _ _
  refine ⟨2100000 + 1 + 1 + 1, ?_⟩
  unfold laws_FnExactMixed.f
  by_cases h1 : (a.length : Int) > 1048576
  · rw [if_pos h1]
  · rw [if_neg h1]
    by_cases h2 : (b.length : Int) > 1048576
    · rw [if_pos h2]
    · rw [if_neg h2]
      have hl := mixed_length a b
      obtain ⟨zs, hzs⟩ := markFrom b ((a.length + 1 : Nat) : Int) (2100000 + 1 + 1) (by omega) (by omega) (by omega) (by omega)
      rw [toInts a _ (by omega) (by omega)]
      simp only [Option.bind_some]
      rw [toInts b _ (by omega) (by omega)]
      simp only [Option.bind_some]
      rw [specMixed a b _ (by omega) (by omega) (by omega)]
      simp only [Option.bind_some]
      rw [implMixed a b _ (by omega) (by omega) (by omega)]
      simp only [Option.bind_some]
      rw [eqInts (mixed a b).1 _ (by omega) (by omega)]
      simp only [Option.bind_some, if_true, bne_self_eq_false, laws_FnExactMixed.j0, Bool.false_eq_true, if_false]
      rw [toInts a _ (by omega) (by omega)]
      simp only [Option.bind_some]
      rw [eqInts a _ (by omega) (by omega)]
      simp only [Option.bind_some, if_true]
      rw [toInts b _ (by omega) (by omega)]
      simp only [Option.bind_some]
      rw [eqInts b _ (by omega) (by omega)]
      simp only [Option.bind_some, if_true]
      rw [mark a _ (by omega) (by omega)]
      simp only [Option.bind_some]
      rw [hzs]
      simp only [Option.bind_some]
      rw [if_neg (by omega), eqInts (mixed a b).1 _ (by omega) (by omega)]
      simp only [Option.bind_some, if_true, bne_self_eq_false, laws_FnExactMixed.j1, Bool.false_eq_true, if_false]
      rw [mark (mixed a b).1 _ (by omega) (by omega)]
      simp only [Option.bind_some]
      rw [held (mixed a b).1.length _ (by omega) (by omega)]
      simp only [Option.bind_some]
      rw [if_neg (by omega), if_pos trivial, toInts a _ (by omega) (by omega)]
      simp only [Option.bind_some]
      rw [toInts b _ (by omega) (by omega)]
      simp only [Option.bind_some]
      rw [implMixed a b _ (by omega) (by omega) (by omega)]
      simp only [Option.bind_some]
      rw [eqInts (mixed a b).1 _ (by omega) (by omega)]
      simp only [Option.bind_some, if_true, bne_self_eq_false, laws_FnExactMixed.j2, Bool.false_eq_true, if_false]
      rw [held (mixed a b).1.length _ (by omega) (by omega)]
      simp only [Option.bind_some]
      rw [if_neg (by omega)]
      simp

end Go.Proofs.Ytoghojneidpkkaa.Pure
