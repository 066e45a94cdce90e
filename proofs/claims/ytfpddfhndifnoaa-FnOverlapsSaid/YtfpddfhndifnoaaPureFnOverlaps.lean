/- FnOverlaps over numbers and lists alone: a time lies in both spans just when it lies in their overlap. Conditions: none. -/
import Derived.Test.YtfpddfhndifnoaaQFnOverlapsx4
namespace Go.Proofs.Ytfpddfhndifnoaa.Pure
open Go.RowKit Go.Proofs.Ytfpddfhndifnoaa.PFnOverlaps Go.Proofs.YtfpddfhndifnoaaW.PrintWords Go.Proofs.YtfpddfhndifnoaaW.PrintLast Go.Proofs.YtfpddfhndifnoaaW.PrintMore
set_option linter.unusedVariables false
set_option linter.unusedSimpArgs false

theorem rd_nat {xs : List Int} {i : Nat} (h : i < xs.length) : rd xs (i : Int) = xs[i] := by
  unfold rd; rw [Int.toNat_natCast, List.getD_eq_getElem?_getD, List.getElem?_eq_getElem h]; rfl
theorem wrap_nat {i : Nat} (h : i < 9223372036854775807) : wrap64 ((i : Int) + 1) = ((i + 1 : Nat) : Int) := by
  unfold wrap64; omega

theorem time_eq : impl_isTime.f = spec_l2Time.f := by
  funext a
  unfold impl_isTime.f spec_l2Time.f impl_in.f
  split <;> rfl
theorem span_eq : impl_spanOk.f = spec_l2SpanOk.f := by
  funext a b
  unfold impl_spanOk.f spec_l2SpanOk.f
  rw [time_eq]
def spanB (a b : Int) : Bool := decide (0 ≤ a) && (decide (a ≤ 52596000) && (decide (0 ≤ b) && (decide (b ≤ 52596000) && decide (a ≤ b))))
theorem span_val (a b : Int) : spec_l2SpanOk.f a b = some (spanB a b) := by
  unfold spec_l2SpanOk.f spec_l2Time.f spanB
  by_cases h1 : 0 ≤ a
  · by_cases h2 : a ≤ 52596000
    · by_cases h3 : 0 ≤ b
      · by_cases h4 : b ≤ 52596000 <;> simp [h1, h2, h3, h4]
      · simp [h1, h2, h3]
    · simp [h1, h2]
  · simp [h1]
theorem mx_comm (a b : Int) : mx a b = mx b a := by unfold mx; split <;> split <;> omega
theorem mn_comm (a b : Int) : mn a b = mn b a := by unfold mn; split <;> split <;> omega
def ovl (a b c d : Int) : Int × Int × Bool := if spanB a b = true ∧ spanB c d = true ∧ mx a c < mn b d then (mx a c, mn b d, true) else (0, 0, false)
theorem spec_ovl (a b c d : Int) : spec_Overlap.f a b c d = some (ovl a b c d) := by
  unfold spec_Overlap.f ovl
  rw [span_val, span_val]
  cases h1 : spanB a b with
  | false => simp
  | true =>
    cases h2 : spanB c d with
    | false => simp
    | true =>
      by_cases h3 : mx a c < mn b d
      · simp [h3, show ¬ mx a c ≥ mn b d by omega]
      · simp [h3, show mx a c ≥ mn b d by omega]
theorem impl_ovl (a b c d : Int) : impl_Overlap.f a b c d = some (ovl a b c d) := by
  rw [← spec_ovl]
  unfold impl_Overlap.f spec_Overlap.f
  rw [span_eq]
theorem ovl_comm (a b c d : Int) : ovl c d a b = ovl a b c d := by
  unfold ovl
  rw [mx_comm c a, mn_comm d b]
  by_cases h : spanB a b = true ∧ spanB c d = true ∧ mx a c < mn b d
  · rw [if_pos h, if_pos ⟨h.2.1, h.1, h.2.2⟩]
  · rw [if_neg h, if_neg (fun h' => h ⟨h'.2.1, h'.1, h'.2.2⟩)]

theorem next_some (xs : List Int) (hn : xs.length ≤ 1048576) (hb : ∀ x ∈ xs, 0 ≤ x ∧ x ≤ 255) (p : Int) (h0 : 0 ≤ p) (h1 : p ≤ xs.length) : ∃ v q, spec_l1Rd_next.f xs p = some (v, q) ∧ 0 ≤ v ∧ v ≤ 255 ∧ 0 ≤ q ∧ q ≤ xs.length := by
  unfold spec_l1Rd_next.f
  by_cases h : p ≥ (xs.length : Int)
  · rw [if_pos h]; exact ⟨0, p, rfl, by omega, by omega, h0, h1⟩
  · have w1 : wrap64 (p + 1) = p + 1 := by unfold wrap64; omega
    have w2 : wrap64 (p + 1 - 1) = p := by unfold wrap64; omega
    obtain ⟨i, rfl⟩ := Int.eq_ofNat_of_zero_le h0
    have hlt : i < xs.length := by omega
    have hx := hb xs[i] (List.getElem_mem hlt)
    have w3 : wrap64 xs[i] = xs[i] := by unfold wrap64; omega
    rw [if_neg h, w1, w2, if_pos h0, if_pos (by omega), rd_nat hlt, w3]
    exact ⟨xs[i], _, rfl, hx.1, hx.2, by omega, by omega⟩
theorem below_some (xs : List Int) (hn : xs.length ≤ 1048576) (hb : ∀ x ∈ xs, 0 ≤ x ∧ x ≤ 255) (p : Int) (h0 : 0 ≤ p) (h1 : p ≤ xs.length) (n : Int) (hn1 : 1 < n) : ∃ v q, spec_l1Rd_below.f xs p n = some (v, q) ∧ 0 ≤ v ∧ v < n ∧ 0 ≤ q ∧ q ≤ xs.length := by
  unfold spec_l1Rd_below.f
  rw [if_neg (by omega)]
  obtain ⟨v, q, e, v0, v1, q0, q1⟩ := next_some xs hn hb p h0 h1
  by_cases h : n ≤ 256
  · rw [if_pos h, e]
    simp only [Option.bind_some]
    rw [if_neg (by omega)]
    exact ⟨_, q, rfl, Int.tmod_nonneg _ v0, Int.tmod_lt_of_pos _ (by omega), q0, q1⟩
  · rw [if_neg h, e]
    simp only [Option.bind_some]
    obtain ⟨v', q', e', v0', v1', q0', q1'⟩ := next_some xs hn hb q q0 q1
    rw [e']
    simp only [Option.bind_some]
    have w1 : wrap64 (v * 256) = v * 256 := by unfold wrap64; omega
    have w2 : wrap64 (v * 256 + v') = v * 256 + v' := by unfold wrap64; omega
    rw [if_neg (by omega), w1, w2]
    exact ⟨_, q', rfl, Int.tmod_nonneg _ (by omega), Int.tmod_lt_of_pos _ (by omega), q0', q1'⟩
theorem once_some (xs : List Int) (hn : xs.length ≤ 1048576) (hb : ∀ x ∈ xs, 0 ≤ x ∧ x ≤ 255) (p : Int) (h0 : 0 ≤ p) (h1 : p ≤ xs.length) (n : Int) (hn1 : 1 < n) : ∃ v q, spec_l1Rd_once.f xs p n = some (v, q) ∧ 0 ≤ q ∧ q ≤ xs.length := by
  unfold spec_l1Rd_once.f
  obtain ⟨v, q, e, _, _, q0, q1⟩ := below_some xs hn hb p h0 h1 n hn1
  rw [e]
  exact ⟨_, q, rfl, q0, q1⟩
theorem word_some (xs : List Int) (hn : xs.length ≤ 1048576) (hb : ∀ x ∈ xs, 0 ≤ x ∧ x ≤ 255) : ∀ (d k i : Nat) (x p : Int), i + d = 8 → d < k → 0 ≤ p → p ≤ xs.length → ∃ v q, spec_l1Rd_word.l0 k x (i : Int) xs p = some (v, q) ∧ 0 ≤ q ∧ q ≤ xs.length := by
  intro d
  induction d with
  | zero =>
    intro k i x p hi hk h0 h1
    obtain ⟨k, rfl⟩ : ∃ m, k = m + 1 := ⟨k - 1, by omega⟩
    simp only [spec_l1Rd_word.l0]
    rw [if_neg (by omega)]
    exact ⟨_, _, rfl, h0, h1⟩
  | succ d ih =>
    intro k i x p hi hk h0 h1
    obtain ⟨k, rfl⟩ : ∃ m, k = m + 1 := ⟨k - 1, by omega⟩
    simp only [spec_l1Rd_word.l0]
    obtain ⟨v, q, e, _, _, q0, q1⟩ := next_some xs hn hb p h0 h1
    rw [if_pos (by omega), e]
    simp only [Option.bind_some]
    rw [wrap_nat (by omega)]
    exact ih k (i + 1) _ q (by omega) (by omega) q0 q1
theorem time_some (xs : List Int) (hn : xs.length ≤ 1048576) (hb : ∀ x ∈ xs, 0 ≤ x ∧ x ≤ 255) (k : Nat) (hk : 8 < k) (p : Int) (h0 : 0 ≤ p) (h1 : p ≤ xs.length) : ∃ v q, spec_l1Rd_time.f k xs p = some (v, q) ∧ 0 ≤ q ∧ q ≤ xs.length := by
  unfold spec_l1Rd_time.f
  obtain ⟨v, q, e, _, _, q0, q1⟩ := below_some xs hn hb p h0 h1 6 (by omega)
  rw [e]
  simp only [Option.bind_some]
  obtain ⟨v1, r1, e1, _, _, a1, b1⟩ := below_some xs hn hb q q0 q1 3000 (by omega)
  obtain ⟨v2, r2, e2, a2, b2⟩ := word_some xs hn hb 8 k 0 0 q (by omega) hk q0 q1
  obtain ⟨v3, r3, e3, _, _, a3, b3⟩ := below_some xs hn hb q q0 q1 60000 (by omega)
  have e2' : spec_l1Rd_word.f k xs q = some (v2, r2) := e2
  rw [e1, e2', e3]
  simp only [Option.bind_some]
  split
  · exact ⟨_, _, rfl, a1, b1⟩
  · split
    · exact ⟨_, _, rfl, a1, b1⟩
    · split
      · exact ⟨_, _, rfl, a2, b2⟩
      · exact ⟨_, _, rfl, a3, b3⟩
theorem drawTime_some (xs : List Int) (hn : xs.length ≤ 1048576) (hb : ∀ x ∈ xs, 0 ≤ x ∧ x ≤ 255) (k : Nat) (hk : 8 < k) (p : Int) (h0 : 0 ≤ p) (h1 : p ≤ xs.length) : ∃ v q, spec_l2DrawTime.f k xs p = some (v, q) ∧ 0 ≤ q ∧ q ≤ xs.length := by
  unfold spec_l2DrawTime.f
  obtain ⟨v, q, e, q0, q1⟩ := once_some xs hn hb p h0 h1 12 (by omega)
  rw [e]
  simp only [Option.bind_some]
  obtain ⟨v1, r1, e1, c1, d1, a1, b1⟩ := below_some xs hn hb q q0 q1 6 (by omega)
  obtain ⟨v2, r2, e2, a2, b2⟩ := time_some xs hn hb k hk q q0 q1
  rw [e1, e2]
  simp only [Option.bind_some]
  have hl : ((([(-1), 52596000, 52596001, 0, 9223372036854775807, (-9223372036854775808)] : List Int).length : Nat) : Int) = 6 := rfl
  split
  · rw [hl, if_pos d1]; exact ⟨_, _, rfl, a1, b1⟩
  · exact ⟨_, _, rfl, a2, b2⟩
theorem drawSpan_some (xs : List Int) (hn : xs.length ≤ 1048576) (hb : ∀ x ∈ xs, 0 ≤ x ∧ x ≤ 255) (k : Nat) (hk : 8 < k) (p : Int) (h0 : 0 ≤ p) (h1 : p ≤ xs.length) : ∃ u v q, spec_l2DrawSpan.f k xs p = some (u, v, q) ∧ 0 ≤ q ∧ q ≤ xs.length := by
  unfold spec_l2DrawSpan.f
  obtain ⟨v1, r1, e1, a1, b1⟩ := time_some xs hn hb k hk p h0 h1
  rw [e1]
  simp only [Option.bind_some]
  obtain ⟨v2, r2, e2, _, _, a2, b2⟩ := below_some xs hn hb r1 a1 b1 4000 (by omega)
  rw [e2]
  simp only [Option.bind_some]
  obtain ⟨v3, r3, e3, a3, b3⟩ := once_some xs hn hb r2 a2 b2 15 (by omega)
  rw [e3]
  simp only [Option.bind_some]
  obtain ⟨v4, r4, e4, a4, b4⟩ := drawTime_some xs hn hb k hk r3 a3 b3
  rw [e4]
  simp only [Option.bind_some]
  split
  · exact ⟨_, _, _, rfl, a4, b4⟩
  · exact ⟨_, _, _, rfl, a3, b3⟩
theorem draw_some (xs : List Int) (hn : xs.length ≤ 1048576) (hb : ∀ x ∈ xs, 0 ≤ x ∧ x ≤ 255) (k : Nat) (hk : 8 < k) : ∃ a b c d, spec_DrawOverlap.f k xs = some (a, b, c, d) := by
  unfold spec_DrawOverlap.f spec_l1Open.f
  simp only [Option.bind_some]
  obtain ⟨u1, v1, r1, e1, a1, b1⟩ := drawSpan_some xs hn hb k hk 0 (by omega) (by omega)
  rw [e1]
  simp only [Option.bind_some]
  obtain ⟨u2, v2, r2, e2, a2, b2⟩ := drawSpan_some xs hn hb k hk r1 a1 b1
  rw [e2]
  simp only [Option.bind_some]
  obtain ⟨v3, r3, e3, a3, b3⟩ := once_some xs hn hb r2 a2 b2 4 (by omega)
  rw [e3]
  simp only [Option.bind_some]
  obtain ⟨v4, r4, e4, _, _, a4, b4⟩ := below_some xs hn hb r3 a3 b3 4000 (by omega)
  rw [e4]
  simp only [Option.bind_some]
  obtain ⟨v5, r5, e5, _, _, a5, b5⟩ := below_some xs hn hb r4 a4 b4 2000 (by omega)
  rw [e5]
  simp only [Option.bind_some]
  split <;> exact ⟨_, _, _, _, rfl⟩
theorem round (a b c d : Int) (xs : List Int) (i : Nat) (hi : i < xs.length) (hl : xs.length ≤ 4) (t : Int) (h0 : -10 ≤ t) (h1 : t ≤ 60000000) (k : Nat) :
    laws_FnOverlaps.l1 (k + 1) xs (i : Int) t a b c d (mx a c) (mn b d) = if t ≤ xs[i] then laws_FnOverlaps.l1 k xs (i : Int) (t + 1) a b c d (mx a c) (mn b d) else laws_FnOverlaps.l0 k xs ((i + 1 : Nat) : Int) a b c d (mx a c) (mn b d) := by
  have w : wrap64 (t + 1) = t + 1 := by unfold wrap64; omega
  have m1 : mx a c ≤ t ↔ (a ≤ t ∧ c ≤ t) := by unfold mx; split <;> omega
  have m2 : t < mn b d ↔ (t < b ∧ t < d) := by unfold mn; split <;> omega
  simp only [laws_FnOverlaps.l1, w, wrap_nat (show i < 9223372036854775807 by omega)]
  rw [if_pos (show (0 : Int) ≤ (i : Int) by omega), if_pos (show (i : Int) < (xs.length : Int) by omega), rd_nat hi]
  by_cases ht : t ≤ xs[i]
  · rw [if_pos ht, if_pos ht]
    by_cases p1 : a ≤ t
    · by_cases p2 : t < b
      · by_cases p3 : c ≤ t
        · by_cases p4 : t < d
          · have q1 : mx a c ≤ t := m1.2 ⟨p1, p3⟩
            have q2 : t < mn b d := m2.2 ⟨p2, p4⟩
            simp [p1, p2, p3, p4, q1, q2]
          · have q1 : mx a c ≤ t := m1.2 ⟨p1, p3⟩
            have q2 : ¬ t < mn b d := fun h => p4 (m2.1 h).2
            simp [p1, p2, p3, p4, q1, q2]
        · have q1 : ¬ mx a c ≤ t := fun h => p3 (m1.1 h).2
          simp [p1, p2, p3, q1]
      · by_cases q1 : mx a c ≤ t
        · have q2 : ¬ t < mn b d := fun h => p2 (m2.1 h).1
          simp [p1, p2, q1, q2]
        · simp [p1, p2, q1]
    · have q1 : ¬ mx a c ≤ t := fun h => p1 (m1.1 h).1
      simp [p1, q1]
  · rw [if_neg ht, if_neg ht]
theorem rounds (a b c d : Int) (xs : List Int) (hl : xs.length ≤ 4) (hx : ∀ x ∈ xs, 0 ≤ x ∧ x ≤ 52596000) : ∀ (n k i : Nat), i + n = xs.length → n * 4 < k → laws_FnOverlaps.l0 k xs (i : Int) a b c d (mx a c) (mn b d) = some true := by
  intro n
  induction n with
  | zero =>
    intro k i hi hk
    obtain ⟨k, rfl⟩ : ∃ m, k = m + 1 := ⟨k - 1, by omega⟩
    simp only [laws_FnOverlaps.l0]
    rw [if_neg (by omega)]
  | succ n ih =>
    intro k i hi hk
    obtain ⟨k, rfl⟩ : ∃ m, k = m + 1 + 1 + 1 + 1 := ⟨k - 4, by omega⟩
    have hlt : i < xs.length := by omega
    have hb := hx xs[i] (List.getElem_mem hlt)
    have w : wrap64 (xs[i] - 1) = xs[i] - 1 := by unfold wrap64; omega
    rw [laws_FnOverlaps.l0, if_pos (by omega), if_pos (by omega), rd_nat hlt, w, round a b c d xs i hlt hl _ (by omega) (by omega), if_pos (by omega), round a b c d xs i hlt hl _ (by omega) (by omega), if_pos (by omega), round a b c d xs i hlt hl _ (by omega) (by omega), if_neg (by omega)]
    exact ih k (i + 1) (by omega) (by omega)
theorem FnOverlaps : laws_FnOverlaps.Pure := by
  intro l0 _ _ hw
  refine ⟨40 + 1, ?_⟩
  unfold laws_FnOverlaps.f laws_big.f
  simp only [Option.bind_some]
  by_cases hb : (l0.length : Int) > 1048576
  · rw [if_pos (by simpa using hb)]
  · rw [if_neg (by simpa using hb)]
    have hbytes : ∀ x ∈ l0, 0 ≤ x ∧ x ≤ 255 := fun x hx => by
      have := hw x hx
      simp only [Lit.wf, Bool.and_eq_true] at this
      exact ⟨of_decide_eq_true this.1, of_decide_eq_true this.2⟩
    obtain ⟨a, b, c, d, e⟩ := draw_some l0 (by omega) hbytes (40 + 1) (by omega)
    rw [e]
    simp only [Option.bind_some, spec_ovl, impl_ovl, ovl_comm a b c d, bne_self_eq_false, Bool.false_eq_true, if_false, beq_self_eq_true, Bool.not_true, Bool.or_self, laws_FnOverlaps.j0]
    by_cases h : spanB a b = true ∧ spanB c d = true ∧ mx a c < mn b d
    · have ho : ovl a b c d = (mx a c, mn b d, true) := if_pos h
      rw [ho]
      simp only [if_true]
      obtain ⟨h1, h2, _⟩ := h
      unfold spanB at h1 h2
      simp only [Bool.and_eq_true, decide_eq_true_eq] at h1 h2
      refine rounds a b c d [a, b, c, d] (by simp) (fun x hx => ?_) 4 40 0 (by simp) (by omega)
      simp only [List.mem_cons, List.not_mem_nil, or_false] at hx
      rcases hx with rfl | rfl | rfl | rfl <;> omega
    · have ho : ovl a b c d = (0, 0, false) := if_neg h
      rw [ho]
      rfl

end Go.Proofs.Ytfpddfhndifnoaa.Pure
