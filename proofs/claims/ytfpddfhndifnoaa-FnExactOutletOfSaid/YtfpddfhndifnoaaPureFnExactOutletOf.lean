/- FnExactOutletOf over numbers and lists alone: the two outlets are one. Conditions: none. -/
import Derived.Test.YtfpddfhndifnoaaPFnExactOutletOfx2
namespace Go.Proofs.Ytfpddfhndifnoaa.Pure
open Go.RowKit Go.Proofs.Ytfpddfhndifnoaa.PFnExactOutletOf Go.Proofs.YtfpddfhndifnoaaW.PrintWords Go.Proofs.YtfpddfhndifnoaaW.PrintLast Go.Proofs.YtfpddfhndifnoaaW.PrintMore
set_option linter.unusedVariables false
set_option linter.unusedSimpArgs false

theorem rd_nat {xs : List Int} {i : Nat} (h : i < xs.length) : rd xs (i : Int) = xs[i] := by
  unfold rd; rw [Int.toNat_natCast, List.getD_eq_getElem?_getD, List.getElem?_eq_getElem h]; rfl
theorem wrap_nat {i : Nat} (h : i < 9223372036854775807) : wrap64 ((i : Int) + 1) = ((i + 1 : Nat) : Int) := by
  unfold wrap64; omega

theorem toInts_l0 (xs : List Int) (hn : xs.length ≤ 140737488351232) : ∀ (d k i : Nat) (ys : List Int), i + d = xs.length → d < k → ys.length = xs.length → ys.take i = xs.take i →
    laws_toInt64S.l0 k xs ys (i : Int) = some xs := by
  intro d
  induction d with
  | zero =>
    intro k i ys hi hk hl ht
    obtain ⟨k, rfl⟩ : ∃ m, k = m + 1 := ⟨k - 1, by omega⟩
    rw [List.take_of_length_le (by omega), List.take_of_length_le (by omega)] at ht
    simp only [laws_toInt64S.l0]
    rw [if_neg (by omega), ht]
  | succ d ih =>
    intro k i ys hi hk hl ht
    obtain ⟨k, rfl⟩ : ∃ m, k = m + 1 := ⟨k - 1, by omega⟩
    have hlt : i < xs.length := by omega
    simp only [laws_toInt64S.l0]
    rw [if_pos (by omega), if_pos (by omega), if_pos (by omega), rd_nat hlt, wrap_nat (by omega), Int.toNat_natCast]
    refine ih k (i + 1) _ (by omega) (by omega) (by rw [List.length_set]; exact hl) ?_
    rw [List.take_succ_eq_append_getElem (by rw [List.length_set]; omega), List.take_succ_eq_append_getElem hlt, List.take_set_of_le (Nat.le_refl i), ht, List.getElem_set_self]
theorem toInts (xs : List Int) (k : Nat) (hn : xs.length ≤ 1048576) (hk : xs.length < k) : laws_toInt64S.f k xs = some xs := by
  unfold laws_toInt64S.f
  rw [if_pos (by omega), if_pos (by omega)]
  exact toInts_l0 xs (by omega) xs.length k 0 _ (by omega) hk (by simp) rfl

theorem eqInts_l0 (xs : List Int) (hn : xs.length ≤ 140737488351232) : ∀ (d k i : Nat), i + d = xs.length → d < k → laws_eqInt64S.l0 k xs xs (i : Int) = some true := by
  intro d
  induction d with
  | zero =>
    intro k i hi hk
    obtain ⟨k, rfl⟩ : ∃ m, k = m + 1 := ⟨k - 1, by omega⟩
    simp only [laws_eqInt64S.l0]
    rw [if_neg (by omega)]
  | succ d ih =>
    intro k i hi hk
    obtain ⟨k, rfl⟩ : ∃ m, k = m + 1 := ⟨k - 1, by omega⟩
    simp only [laws_eqInt64S.l0]
    rw [if_pos (by omega), if_pos (by omega), if_pos (by omega), if_pos trivial, wrap_nat (by omega)]
    exact ih k (i + 1) (by omega) (by omega)
theorem eqInts (xs : List Int) (k : Nat) (hn : xs.length ≤ 140737488351232) (hk : xs.length < k) : laws_eqInt64S.f k xs xs = some true := by
  unfold laws_eqInt64S.f
  rw [if_pos rfl]
  exact eqInts_l0 xs hn xs.length k 0 (by omega) hk

theorem specIn (a b c : Int) : spec_l2In.f a b c = some (decide (b ≤ a) && decide (a ≤ c)) := by
  unfold spec_l2In.f; by_cases h : a ≥ b
  · rw [if_pos h, decide_eq_true (show b ≤ a from h), Bool.true_and]
  · rw [if_neg h, decide_eq_false (show ¬ b ≤ a from h), Bool.false_and]
theorem implIn (a b c : Int) : impl_in.f a b c = some (decide (b ≤ a) && decide (a ≤ c)) := by
  unfold impl_in.f; by_cases h : a ≥ b
  · rw [if_pos h, decide_eq_true (show b ≤ a from h), Bool.true_and]
  · rw [if_neg h, decide_eq_false (show ¬ b ≤ a from h), Bool.false_and]
def within (lo hi : Int) (xs : List Int) : Bool := xs.all fun x => decide (lo ≤ x) && decide (x ≤ hi)
theorem within_mem {lo hi : Int} {xs : List Int} (h : within lo hi xs = true) {x : Int} (hx : x ∈ xs) : lo ≤ x ∧ x ≤ hi := by
  unfold within at h
  rw [List.all_eq_true] at h
  have := h x hx
  rw [Bool.and_eq_true] at this
  exact ⟨of_decide_eq_true this.1, of_decide_eq_true this.2⟩
theorem pigeon : ∀ (n m : Nat) (f : Nat → Nat), (∀ i, i < m → f i < n) → (∀ i j, i < m → j < m → f i = f j → i = j) → m ≤ n := by
  intro n
  induction n with
  | zero =>
    intro m f h _
    rcases Nat.eq_zero_or_pos m with h0 | h0
    · omega
    · have := h 0 h0; omega
  | succ n ih =>
    intro m f h hinj
    rcases Nat.eq_zero_or_pos m with h0 | h0
    · omega
    · have := ih (m - 1) (fun i => if f i = n then f (m - 1) else f i) (fun i hi => by
        have h1 := h i (by omega)
        have h2 := h (m - 1) (by omega)
        split
        · have : f (m - 1) ≠ n := fun e => by have := hinj i (m - 1) (by omega) (by omega) (by omega); omega
          omega
        · omega) (fun i j hi hj e => by
        have h1 := hinj i (m - 1) (by omega) (by omega)
        have h2 := hinj j (m - 1) (by omega) (by omega)
        have h3 := hinj i j (by omega) (by omega)
        split at e <;> split at e <;> omega)
      omega
/-- the place after so many steps down -/
def down (xs : List Int) : Nat → Int → Int
  | 0, c => c
  | t + 1, c => down xs t (rd xs c)
theorem down_add (xs : List Int) (s : Nat) : ∀ (t : Nat) (c : Int), down xs (t + s) c = down xs s (down xs t c) := by
  intro t
  induction t with
  | zero => intro c; rw [Nat.zero_add]; rfl
  | succ t ih => intro c; rw [show t + 1 + s = t + s + 1 from by omega]; exact ih _
/-- how many places a way has, told if it is fewer than f -/
def dep (xs : List Int) : Nat → Int → Option Nat
  | 0, _ => none
  | f + 1, c => if c < 0 then some 0 else (dep xs f (rd xs c)).map (· + 1)
theorem dep_lt (xs : List Int) : ∀ (f : Nat) (c : Int) (L : Nat), dep xs f c = some L → L < f ∧ (∀ t, t < L → 0 ≤ down xs t c) ∧ down xs L c < 0 := by
  intro f
  induction f with
  | zero => intro c L h; cases h
  | succ f ih =>
    intro c L h
    simp only [dep] at h
    by_cases hc : c < 0
    · rw [if_pos hc] at h
      cases h
      exact ⟨by omega, fun t ht => by omega, hc⟩
    · rw [if_neg hc, Option.map_eq_some_iff] at h
      obtain ⟨L', h1, rfl⟩ := h
      obtain ⟨a, b, d⟩ := ih _ _ h1
      refine ⟨by omega, fun t ht => ?_, d⟩
      cases t with
      | zero => show 0 ≤ c; omega
      | succ t => exact b t (by omega)
theorem dep_more (xs : List Int) : ∀ (f : Nat) (c : Int) (L g : Nat), dep xs f c = some L → L < g → dep xs g c = some L := by
  intro f
  induction f with
  | zero => intro c L g h; cases h
  | succ f ih =>
    intro c L g h hg
    obtain ⟨g, rfl⟩ : ∃ m, g = m + 1 := ⟨g - 1, by omega⟩
    simp only [dep] at h ⊢
    by_cases hc : c < 0
    · rw [if_pos hc] at h ⊢; exact h
    · rw [if_neg hc, Option.map_eq_some_iff] at h
      obtain ⟨L', h1, rfl⟩ := h
      rw [if_neg hc, ih _ _ g h1 (by omega)]; rfl
theorem rd_range {xs : List Int} {n : Int} (h : within (-1) n xs = true) {c : Int} (h0 : 0 ≤ c) (h1 : c < xs.length) : -1 ≤ rd xs c ∧ rd xs c ≤ n := by
  obtain ⟨i, rfl⟩ := Int.eq_ofNat_of_zero_le h0
  rw [rd_nat (by omega)]
  exact within_mem h (List.getElem_mem _)
theorem down_range {xs : List Int} (h : within (-1) ((xs.length : Int) - 1) xs = true) : ∀ (t : Nat) (c : Int), c < xs.length → (∀ s, s < t → 0 ≤ down xs s c) → down xs t c < xs.length := by
  intro t
  induction t with
  | zero => intro c hc _; exact hc
  | succ t ih =>
    intro c hc hs
    have h0 : 0 ≤ c := hs 0 (by omega)
    exact ih (rd xs c) (by have := rd_range h h0 hc; omega) (fun s hs' => hs (s + 1) (by omega))
theorem dep_le {xs : List Int} (h : within (-1) ((xs.length : Int) - 1) xs = true) {f : Nat} {c : Int} {L : Nat} (hc : c < xs.length) (hd : dep xs f c = some L) : L ≤ xs.length := by
  obtain ⟨_, h1, h2⟩ := dep_lt xs f c L hd
  refine pigeon xs.length L (fun t => (down xs t c).toNat) (fun i hi => ?_) (fun i j hi hj e => ?_)
  · have := h1 i hi
    have := down_range h i c hc (fun s hs => h1 s (by omega))
    omega
  · have a1 := h1 i hi
    have a2 := h1 j hj
    have e' : down xs i c = down xs j c := by omega
    rcases Nat.lt_trichotomy i j with hij | hij | hij
    · exfalso
      have := h1 (i + (L - j)) (by omega)
      rw [down_add, e', ← down_add, show j + (L - j) = L from by omega] at this
      omega
    · exact hij
    · exfalso
      have := h1 (j + (L - i)) (by omega)
      rw [down_add, ← e', ← down_add, show i + (L - i) = L from by omega] at this
      omega
theorem dep_none {xs : List Int} (h : within (-1) ((xs.length : Int) - 1) xs = true) {c : Int} (hc : c < xs.length) (hd : dep xs (xs.length + 1) c = none) (f : Nat) : dep xs f c = none := by
  cases hf : dep xs f c with
  | none => rfl
  | some L =>
    have := dep_le h hc hf
    rw [dep_more xs f c L _ hf (by omega)] at hd
    cases hd
/-- the last place of a way of so many places -/
def lastOf (xs : List Int) : Nat → Int → Int
  | 0, c => c
  | 1, c => c
  | L + 2, c => lastOf xs (L + 1) (rd xs c)
theorem spec_last_some (xs : List Int) (h : within (-1) ((xs.length : Int) - 1) xs = true) (hn : xs.length ≤ 576) : ∀ (L f k i : Nat) (c : Int), dep xs f c = some (L + 1) → c < xs.length → i + L ≤ xs.length → L < k → spec_l13Last.l0 k xs c (i : Int) = some (lastOf xs (L + 1) c, true) := by
  intro L
  induction L with
  | zero =>
    intro f k i c hd hc hi hk
    obtain ⟨k, rfl⟩ : ∃ m, k = m + 1 := ⟨k - 1, by omega⟩
    obtain ⟨_, h1, h2⟩ := dep_lt xs f c _ hd
    have h0 : 0 ≤ c := h1 0 (by omega)
    have hr := rd_range h h0 hc
    have h3 : rd xs c < 0 := h2
    simp only [spec_l13Last.l0]
    rw [if_pos (by omega), if_pos h0, if_pos hc, if_pos (by omega)]; rfl
  | succ L ih =>
    intro f k i c hd hc hi hk
    obtain ⟨k, rfl⟩ : ∃ m, k = m + 1 := ⟨k - 1, by omega⟩
    obtain ⟨_, h1, h2⟩ := dep_lt xs f c _ hd
    have h0 : 0 ≤ c := h1 0 (by omega)
    have hr := rd_range h h0 hc
    have h3 : 0 ≤ rd xs c := h1 1 (by omega)
    simp only [spec_l13Last.l0]
    rw [if_pos (by omega), if_pos h0, if_pos hc, if_neg (by omega), wrap_nat (by omega)]
    cases f with
    | zero => cases hd
    | succ f =>
      simp only [dep] at hd
      rw [if_neg (by omega), Option.map_eq_some_iff] at hd
      obtain ⟨L', h4, h5⟩ := hd
      obtain rfl : L' = L + 1 := by omega
      exact ih f k (i + 1) (rd xs c) h4 (by omega) (by omega) (by omega)
theorem spec_last_none (xs : List Int) (h : within (-1) ((xs.length : Int) - 1) xs = true) (hn : xs.length ≤ 576) : ∀ (d k i : Nat) (c : Int), (∀ f, dep xs f c = none) → c < xs.length → i + d = xs.length + 1 → d < k → spec_l13Last.l0 k xs c (i : Int) = some (0, false) := by
  intro d
  induction d with
  | zero =>
    intro k i c hd hc hi hk
    obtain ⟨k, rfl⟩ : ∃ m, k = m + 1 := ⟨k - 1, by omega⟩
    simp only [spec_l13Last.l0]
    rw [if_neg (by omega)]
  | succ d ih =>
    intro k i c hd hc hi hk
    obtain ⟨k, rfl⟩ : ∃ m, k = m + 1 := ⟨k - 1, by omega⟩
    have h0 : 0 ≤ c := by
      have := hd 1
      simp only [dep] at this
      by_cases hc0 : c < 0
      · rw [if_pos hc0] at this; cases this
      · omega
    have hd' : ∀ f, dep xs f (rd xs c) = none := fun f => by
      have := hd (f + 1)
      simp only [dep] at this
      rw [if_neg (by omega)] at this
      simpa using this
    have h1 : 0 ≤ rd xs c := by
      have := hd' 1
      simp only [dep] at this
      by_cases hc0 : rd xs c < 0
      · rw [if_pos hc0] at this; cases this
      · omega
    have hr := rd_range h h0 hc
    simp only [spec_l13Last.l0]
    rw [if_pos (by omega), if_pos h0, if_pos hc, if_neg (by omega), wrap_nat (by omega)]
    exact ih k (i + 1) (rd xs c) hd' (by omega) (by omega) (by omega)
/-- does the way from c end? -/
def ends (xs : List Int) (c : Int) : Bool := (dep xs (xs.length + 1) c).isSome
theorem spec_last (xs : List Int) (h : within (-1) ((xs.length : Int) - 1) xs = true) (hn : xs.length ≤ 576) (k : Nat) (hk : xs.length + 1 < k) (c : Int) (h0 : 0 ≤ c) (hc : c < xs.length) :
    spec_l13Last.f k xs c = some (if ends xs c then lastOf xs ((dep xs (xs.length + 1) c).getD 0) c else 0, ends xs c) := by
  unfold spec_l13Last.f ends
  cases hd : dep xs (xs.length + 1) c with
  | none => exact spec_last_none xs h hn (xs.length + 1) k 0 c (dep_none h hc hd) hc (by omega) (by omega)
  | some L =>
    have hl := dep_le h hc hd
    obtain ⟨_, h1, h2⟩ := dep_lt xs _ c _ hd
    cases L with
    | zero => have : c < 0 := h2; omega
    | succ L => exact spec_last_some xs h hn L _ k 0 c hd hc (by omega) (by omega)
/-- do all ways end, from place i on? -/
def allEnd (xs : List Int) : Nat → Nat → Bool
  | 0, _ => true
  | d + 1, i => ends xs (i : Int) && allEnd xs d (i + 1)
theorem spec_l1 (xs : List Int) (h : within (-1) ((xs.length : Int) - 1) xs = true) (hn : xs.length ≤ 576) : ∀ (d k i : Nat), i + d = xs.length → d + xs.length + 1 < k → spec_l13Ok.l1 k xs (i : Int) = some (allEnd xs d i) := by
  intro d
  induction d with
  | zero =>
    intro k i hi hk
    obtain ⟨k, rfl⟩ : ∃ m, k = m + 1 := ⟨k - 1, by omega⟩
    simp only [spec_l13Ok.l1, allEnd]
    rw [if_neg (by omega)]
  | succ d ih =>
    intro k i hi hk
    obtain ⟨k, rfl⟩ : ∃ m, k = m + 1 := ⟨k - 1, by omega⟩
    simp only [spec_l13Ok.l1, allEnd]
    rw [if_pos (by omega), spec_last xs h hn k (by omega) (i : Int) (by omega) (by omega)]
    simp only [Option.bind_some]
    cases ends xs (i : Int) with
    | false => rfl
    | true => rw [if_pos rfl, wrap_nat (by omega), ih k (i + 1) (by omega) (by omega)]; rfl
theorem spec_l0 (xs : List Int) (hn : xs.length ≤ 576) : ∀ (d k i : Nat), i + d = xs.length → within (-1) ((xs.length : Int) - 1) (xs.take i) = true → d + xs.length + xs.length + 2 < k → spec_l13Ok.l0 k xs (i : Int) = some (within (-1) ((xs.length : Int) - 1) xs && allEnd xs xs.length 0) := by
  intro d
  induction d with
  | zero =>
    intro k i hi hw hk
    obtain ⟨k, rfl⟩ : ∃ m, k = m + 1 := ⟨k - 1, by omega⟩
    rw [List.take_of_length_le (by omega)] at hw
    simp only [spec_l13Ok.l0]
    rw [if_neg (by omega), hw, Bool.true_and]
    exact spec_l1 xs hw hn xs.length k 0 (by omega) (by omega)
  | succ d ih =>
    intro k i hi hw hk
    obtain ⟨k, rfl⟩ : ∃ m, k = m + 1 := ⟨k - 1, by omega⟩
    have hlt : i < xs.length := by omega
    have e : wrap64 ((xs.length : Int) - 1) = (xs.length : Int) - 1 := by unfold wrap64; omega
    simp only [spec_l13Ok.l0]
    rw [if_pos (by omega), if_pos (by omega), rd_nat hlt, wrap_nat (by omega), specIn, e]
    simp only [Option.bind_some]
    cases hb : (decide (-1 ≤ xs[i]) && decide (xs[i] ≤ (xs.length : Int) - 1)) with
    | false =>
      rw [if_neg (by decide)]
      have : within (-1) ((xs.length : Int) - 1) xs = false := by
        cases hw' : within (-1) ((xs.length : Int) - 1) xs with
        | false => rfl
        | true =>
          have := within_mem hw' (List.getElem_mem hlt)
          rw [decide_eq_true this.1, decide_eq_true this.2] at hb
          cases hb
      rw [this]; rfl
    | true =>
      rw [if_pos rfl]
      refine ih k (i + 1) (by omega) ?_ (by omega)
      rw [List.take_succ_eq_append_getElem hlt]
      unfold within at *
      rw [List.all_append, hw, List.all_cons, hb]; rfl
theorem specOk (xs : List Int) (k : Nat) (hk : 3 * xs.length + 2 < k) : spec_l13Ok.f k xs = some (decide (xs.length ≤ 576) && (within (-1) ((xs.length : Int) - 1) xs && allEnd xs xs.length 0)) := by
  unfold spec_l13Ok.f
  by_cases h : xs.length ≤ 576
  · rw [if_neg (by omega), decide_eq_true h, Bool.true_and]
    exact spec_l0 xs h xs.length k 0 (by omega) rfl (by omega)
  · rw [if_pos (by omega), decide_eq_false h, Bool.false_and]
/-- one more for each place of a way -/
def bump (xs : List Int) : Nat → Int → List Int → List Int
  | 0, _, ys => ys
  | L + 1, c, ys => bump xs L (rd xs c) (ys.set c.toNat (wrap64 (rd ys c + 1)))
theorem bump_length (xs : List Int) : ∀ (L : Nat) (c : Int) (ys : List Int), (bump xs L c ys).length = ys.length := by
  intro L
  induction L with
  | zero => intro c ys; rfl
  | succ L ih => intro c ys; simp only [bump]; rw [ih, List.length_set]
/-- one more for each place of each way from i on -/
def bumps (xs : List Int) : Nat → Nat → List Int → List Int
  | 0, _, ys => ys
  | d + 1, i, ys => bumps xs d (i + 1) (bump xs ((dep xs (xs.length + 1) (i : Int)).getD 0) (i : Int) ys)
theorem bumps_length (xs : List Int) : ∀ (d i : Nat) (ys : List Int), (bumps xs d i ys).length = ys.length := by
  intro d
  induction d with
  | zero => intro i ys; rfl
  | succ d ih => intro i ys; simp only [bumps]; rw [ih, bump_length]
theorem impl_l2_some (xs : List Int) (h : within (-1) ((xs.length : Int) - 1) xs = true) (hn : xs.length ≤ 576) (i : Nat) (hi : i < xs.length) : ∀ (L f k s : Nat) (c : Int) (ys : List Int), dep xs f c = some L → c < xs.length → ys.length = xs.length → s + L ≤ xs.length → L < k →
    impl_Catch.l2 k xs (xs.length : Int) ys (i : Int) (s : Int) c = impl_Catch.l1 (k - L - 1) xs (xs.length : Int) (bump xs L c ys) ((i + 1 : Nat) : Int) := by
  intro L
  induction L with
  | zero =>
    intro f k s c ys hd hc hy hs hk
    obtain ⟨k, rfl⟩ : ∃ m, k = m + 1 := ⟨k - 1, by omega⟩
    obtain ⟨_, _, h2⟩ := dep_lt xs f c _ hd
    have h2 : c < 0 := h2
    simp only [impl_Catch.l2, bump]
    rw [if_neg (by omega), wrap_nat (by omega)]; rfl
  | succ L ih =>
    intro f k s c ys hd hc hy hs hk
    obtain ⟨k, rfl⟩ : ∃ m, k = m + 1 := ⟨k - 1, by omega⟩
    obtain ⟨_, h1, h2⟩ := dep_lt xs f c _ hd
    have h0 : 0 ≤ c := h1 0 (by omega)
    have hr := rd_range h h0 hc
    simp only [impl_Catch.l2, bump]
    rw [if_pos (by omega), if_pos h0, if_pos (by omega), wrap_nat (by omega), if_neg (by omega), if_pos hc, show k + 1 - (L + 1) - 1 = k - L - 1 from by omega]
    cases f with
    | zero => cases hd
    | succ f =>
      simp only [dep] at hd
      rw [if_neg (by omega), Option.map_eq_some_iff] at hd
      obtain ⟨L', h4, h5⟩ := hd
      obtain rfl : L' = L := by omega
      exact ih f k (s + 1) (rd xs c) _ h4 (by omega) (by rw [List.length_set]; exact hy) (by omega) (by omega)
theorem impl_l2_none (xs : List Int) (h : within (-1) ((xs.length : Int) - 1) xs = true) (hn : xs.length ≤ 576) (i : Int) : ∀ (d k s : Nat) (c : Int) (ys : List Int), (∀ f, dep xs f c = none) → c < xs.length → ys.length = xs.length → s + d = xs.length → d < k →
    impl_Catch.l2 k xs (xs.length : Int) ys i (s : Int) c = some (([] : List Int), false) := by
  intro d
  induction d with
  | zero =>
    intro k s c ys hd hc hy hs hk
    obtain ⟨k, rfl⟩ : ∃ m, k = m + 1 := ⟨k - 1, by omega⟩
    have h0 : 0 ≤ c := by
      have := hd 1
      simp only [dep] at this
      by_cases hc0 : c < 0
      · rw [if_pos hc0] at this; cases this
      · omega
    simp only [impl_Catch.l2]
    rw [if_pos (by omega), if_pos h0, if_pos (by omega), wrap_nat (by omega), if_pos (by omega)]
  | succ d ih =>
    intro k s c ys hd hc hy hs hk
    obtain ⟨k, rfl⟩ : ∃ m, k = m + 1 := ⟨k - 1, by omega⟩
    have h0 : 0 ≤ c := by
      have := hd 1
      simp only [dep] at this
      by_cases hc0 : c < 0
      · rw [if_pos hc0] at this; cases this
      · omega
    have hd' : ∀ f, dep xs f (rd xs c) = none := fun f => by
      have := hd (f + 1)
      simp only [dep] at this
      rw [if_neg (by omega)] at this
      simpa using this
    have hr := rd_range h h0 hc
    simp only [impl_Catch.l2]
    rw [if_pos (by omega), if_pos h0, if_pos (by omega), wrap_nat (by omega), if_neg (by omega), if_pos hc]
    exact ih k (s + 1) (rd xs c) _ hd' (by omega) (by rw [List.length_set]; exact hy) (by omega) (by omega)
theorem impl_l1 (xs : List Int) (h : within (-1) ((xs.length : Int) - 1) xs = true) (hn : xs.length ≤ 576) : ∀ (d k i : Nat) (ys : List Int), i + d = xs.length → ys.length = xs.length → d * (xs.length + 3) < k → impl_Catch.l1 k xs (xs.length : Int) ys (i : Int) = some (if allEnd xs d i then bumps xs d i ys else [], allEnd xs d i) := by
  intro d
  induction d with
  | zero =>
    intro k i ys hi hy hk
    obtain ⟨k, rfl⟩ : ∃ m, k = m + 1 := ⟨k - 1, by omega⟩
    simp only [impl_Catch.l1, allEnd, bumps]
    rw [if_neg (by omega)]; rfl
  | succ d ih =>
    intro k i ys hi hy hk
    rw [Nat.succ_mul] at hk
    obtain ⟨k, rfl⟩ : ∃ m, k = m + 1 := ⟨k - 1, by omega⟩
    simp only [impl_Catch.l1]
    rw [if_pos (by omega)]
    cases hd : dep xs (xs.length + 1) (i : Int) with
    | none =>
      have ha : allEnd xs (d + 1) i = false := by simp only [allEnd, ends, hd]; rfl
      rw [ha]
      exact impl_l2_none xs h hn (i : Int) xs.length k 0 (i : Int) ys (dep_none h (by omega) hd) (by omega) hy (by omega) (by omega)
    | some L =>
      have hl := dep_le h (show (i : Int) < xs.length by omega) hd
      have ha : allEnd xs (d + 1) i = allEnd xs d (i + 1) := by simp only [allEnd, ends, hd]; rfl
      have hb : bumps xs (d + 1) i ys = bumps xs d (i + 1) (bump xs L (i : Int) ys) := by simp only [bumps, hd]; rfl
      rw [ha, hb]
      refine (impl_l2_some xs h hn i (by omega) L _ k 0 (i : Int) ys hd (by omega) hy (by omega) (by omega)).trans ?_
      exact ih _ (i + 1) _ (by omega) (by rw [bump_length]; exact hy) (by omega)
theorem impl_l0 (xs : List Int) (hn : xs.length ≤ 576) : ∀ (d k i : Nat), i + d = xs.length → within (-1) ((xs.length : Int) - 1) (xs.take i) = true → d + xs.length * (xs.length + 3) + 1 < k →
    impl_Catch.l0 k xs (xs.length : Int) xs (xs.length : Int) (i : Int) = some (if within (-1) ((xs.length : Int) - 1) xs && allEnd xs xs.length 0 then bumps xs xs.length 0 (List.replicate xs.length 0) else [], within (-1) ((xs.length : Int) - 1) xs && allEnd xs xs.length 0) := by
  intro d
  induction d with
  | zero =>
    intro k i hi hw hk
    obtain ⟨k, rfl⟩ : ∃ m, k = m + 1 := ⟨k - 1, by omega⟩
    rw [List.take_of_length_le (by omega)] at hw
    simp only [impl_Catch.l0]
    rw [if_neg (by omega), if_pos (by omega), if_pos (by omega), hw, Bool.true_and, Int.toNat_natCast]
    exact impl_l1 xs hw hn xs.length k 0 _ (by omega) (List.length_replicate) (by omega)
  | succ d ih =>
    intro k i hi hw hk
    obtain ⟨k, rfl⟩ : ∃ m, k = m + 1 := ⟨k - 1, by omega⟩
    have hlt : i < xs.length := by omega
    have e : wrap64 ((xs.length : Int) - 1) = (xs.length : Int) - 1 := by unfold wrap64; omega
    simp only [impl_Catch.l0]
    rw [if_pos (by omega), if_pos (by omega), if_pos (by omega), rd_nat hlt, wrap_nat (by omega), implIn, e]
    simp only [Option.bind_some]
    cases hb : (decide (-1 ≤ xs[i]) && decide (xs[i] ≤ (xs.length : Int) - 1)) with
    | false =>
      rw [if_neg (by decide)]
      have : within (-1) ((xs.length : Int) - 1) xs = false := by
        cases hw' : within (-1) ((xs.length : Int) - 1) xs with
        | false => rfl
        | true =>
          have := within_mem hw' (List.getElem_mem hlt)
          rw [decide_eq_true this.1, decide_eq_true this.2] at hb
          cases hb
      rw [this]; rfl
    | true =>
      rw [if_pos rfl]
      refine ih k (i + 1) (by omega) ?_ (by omega)
      rw [List.take_succ_eq_append_getElem hlt]
      unfold within at *
      rw [List.all_append, hw, List.all_cons, hb]; rfl
def good (xs : List Int) : Bool := decide (xs.length ≤ 576) && (within (-1) ((xs.length : Int) - 1) xs && allEnd xs xs.length 0)
theorem implCatch (xs : List Int) (k : Nat) (hk : 400000 < k) : impl_Catch.f k xs = some (if good xs then bumps xs xs.length 0 (List.replicate xs.length 0) else [], good xs) := by
  unfold impl_Catch.f good
  by_cases h : xs.length ≤ 576
  · rw [if_neg (by omega), decide_eq_true h, Bool.true_and]
    have hm : xs.length * (xs.length + 3) ≤ 576 * 579 := Nat.mul_le_mul (by omega) (by omega)
    exact impl_l0 xs h xs.length k 0 (by omega) rfl (by omega)
  · rw [if_pos (by omega), decide_eq_false h, Bool.false_and]; rfl
theorem allEnd_at (xs : List Int) : ∀ (d i c : Nat), allEnd xs d i = true → i ≤ c → c < i + d → ends xs (c : Int) = true := by
  intro d
  induction d with
  | zero => intro i c _ h1 h2; omega
  | succ d ih =>
    intro i c h h1 h2
    simp only [allEnd, Bool.and_eq_true] at h
    by_cases hc : c = i
    · subst hc; exact h.1
    · exact ih (i + 1) c h.2 (by omega) (by omega)

theorem impl_out (xs : List Int) (h : within (-1) ((xs.length : Int) - 1) xs = true) : ∀ (L f k : Nat) (c : Int), dep xs f c = some (L + 1) → c < xs.length → L < k → impl_OutletOf.l0 k xs c = some (lastOf xs (L + 1) c) := by
  intro L
  induction L with
  | zero =>
    intro f k c hd hc hk
    obtain ⟨k, rfl⟩ : ∃ m, k = m + 1 := ⟨k - 1, by omega⟩
    obtain ⟨_, h1, h2⟩ := dep_lt xs f c _ hd
    have h0 : 0 ≤ c := h1 0 (by omega)
    have h3 : rd xs c < 0 := h2
    simp only [impl_OutletOf.l0]
    rw [if_pos h0, if_pos hc, if_neg (by omega)]; rfl
  | succ L ih =>
    intro f k c hd hc hk
    obtain ⟨k, rfl⟩ : ∃ m, k = m + 1 := ⟨k - 1, by omega⟩
    obtain ⟨_, h1, h2⟩ := dep_lt xs f c _ hd
    have h0 : 0 ≤ c := h1 0 (by omega)
    have hr := rd_range h h0 hc
    have h3 : 0 ≤ rd xs c := h1 1 (by omega)
    simp only [impl_OutletOf.l0]
    rw [if_pos h0, if_pos hc, if_pos (by omega)]
    cases f with
    | zero => cases hd
    | succ f =>
      simp only [dep] at hd
      rw [if_neg (by omega), Option.map_eq_some_iff] at hd
      obtain ⟨L', h4, h5⟩ := hd
      obtain rfl : L' = L + 1 := by omega
      exact ih f k (rd xs c) h4 (by omega) (by omega)
theorem both (c : Int) (xs : List Int) (k : Nat) (hn : xs.length ≤ 1048576) (hk : 4000000 < k) : ∃ t, spec_OutletOf.f (k + 1) xs c = some t ∧ impl_OutletOf.f (k + 1) xs c = some t := by
  unfold spec_OutletOf.f impl_OutletOf.f
  rw [specOk xs (k + 1) (by omega), implCatch xs (k + 1) (by omega)]
  have e : wrap64 ((xs.length : Int) - 1) = (xs.length : Int) - 1 := by unfold wrap64; omega
  simp only [Option.bind_some, specIn, implIn, e, impl_OutletOf.j0]
  cases hg : good xs with
  | false =>
    unfold good at hg
    rw [hg]
    exact ⟨-1, rfl, rfl⟩
  | true =>
    have hg' := hg
    unfold good at hg
    rw [hg]
    rw [Bool.and_eq_true, Bool.and_eq_true] at hg
    obtain ⟨hl, hw, ha⟩ := hg
    have hl := of_decide_eq_true hl
    by_cases h1 : 0 ≤ c
    · by_cases h2 : c ≤ (xs.length : Int) - 1
      · simp only [h1, h2, decide_true, Bool.and_self, if_true, Bool.not_true, Bool.false_eq_true, if_false]
        have he : ends xs c = true := by
          obtain ⟨n, rfl⟩ := Int.eq_ofNat_of_zero_le h1
          exact allEnd_at xs xs.length 0 n ha (by omega) (by omega)
        rw [spec_last xs hw hl (k + 1) (by omega) c h1 (by omega), he]
        unfold ends at he
        cases hd : dep xs (xs.length + 1) c with
        | none => rw [hd] at he; cases he
        | some L =>
          have hle := dep_le hw (show c < xs.length by omega) hd
          obtain ⟨_, _, h3⟩ := dep_lt xs _ c _ hd
          cases L with
          | zero => have : c < 0 := h3; omega
          | succ L => exact ⟨lastOf xs (L + 1) c, rfl, impl_out xs hw L _ k c hd (by omega) (by omega)⟩
      · exact ⟨-1, by simp [h2], by simp [h2]⟩
    · exact ⟨-1, by simp [h1], by simp [h1]⟩

theorem FnExactOutletOf : laws_FnExactOutletOf.Pure := by
  intro l0 a1 _ _ _ _
  refine ⟨4000001 + 1, ?_⟩
  unfold laws_FnExactOutletOf.f
  by_cases hb : (l0.length : Int) > 1048576
  · rw [if_pos hb]
  · rw [if_neg hb]
    obtain ⟨t, he, ht⟩ := both a1 l0 4000001 (by omega) (by omega)
    simp only [toInts l0 (4000001 + 1) (by omega) (by omega), Option.bind_some, he, ht, if_true, eqInts l0 (4000001 + 1) (by omega) (by omega)]

end Go.Proofs.Ytfpddfhndifnoaa.Pure
