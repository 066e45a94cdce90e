/-
  The pure law of FnExactSoilStep: both sides tell the same; the law's contract.
  Conditions: none.
-/
import Derived.Test.YtoghojneidpkkaaQFnExactSoilStepx5
namespace Go.Proofs.Ytoghojneidpkkaa.PureFnExactSoilStep
open Go Go.RowKit Go.Proofs.Ytoghojneidpkkaa.PFnExactSoilStep Go.Proofs.YtoghojneidpkkaaW.PrintWords Go.Proofs.YtoghojneidpkkaaW.PrintLast Go.Proofs.YtoghojneidpkkaaW.PrintMore

theorem wrap_id {x : Int} (h0 : -9000000000000000000 ≤ x) (h1 : x ≤ 9000000000000000000) : wrap64 x = x := by unfold wrap64; omega
theorem specIn (a b c : Int) : spec_l2In.f a b c = some (decide (b ≤ a ∧ a ≤ c)) := by
  unfold spec_l2In.f; by_cases h : a ≥ b
  · rw [if_pos h, Bool.decide_and, decide_eq_true (show b ≤ a from h), Bool.true_and]
  · rw [if_neg h, Bool.decide_and, decide_eq_false (show ¬ b ≤ a from h), Bool.false_and]
theorem implIn (a b c : Int) : impl_in.f a b c = some (decide (b ≤ a ∧ a ≤ c)) := by
  unfold impl_in.f; by_cases h : a ≥ b
  · rw [if_pos h, Bool.decide_and, decide_eq_true (show b ≤ a from h), Bool.true_and]
  · rw [if_neg h, Bool.decide_and, decide_eq_false (show ¬ b ≤ a from h), Bool.false_and]
theorem rd_nat {xs : List Int} {i : Nat} (h : i < xs.length) : rd xs (i : Int) = xs[i] := by
  unfold rd; rw [Int.toNat_natCast, List.getD_eq_getElem?_getD, List.getElem?_eq_getElem h]; rfl
def okIn (x : Int) : Prop := 0 ≤ x ∧ x ≤ 1000000000000
instance (x : Int) : Decidable (okIn x) := inferInstanceAs (Decidable (_ ∧ _))
theorem one (k : Nat) (xs : List Int) (i : Nat) (s t d g f : Int) (h : i < xs.length) (hl : xs.length < 1000) :
    spec_l17SoilOk.l0 (k + 1) xs (xs.length : Int) (i : Int) s t d g f = if okIn xs[i] then spec_l17SoilOk.l0 k xs (xs.length : Int) ((i + 1 : Nat) : Int) s t d g f else some false := by
  simp only [spec_l17SoilOk.l0]
  rw [if_pos (by omega), if_pos (by omega), if_pos (by omega), rd_nat h, specIn, wrap_id (by omega) (by omega)]
  simp only [Option.bind_some]
  by_cases c : okIn xs[i]
  · rw [if_pos c, if_pos (decide_eq_true (show 0 ≤ xs[i] ∧ xs[i] ≤ 1000000000000 from c))]; rfl
  · rw [if_neg c, if_neg (by rw [decide_eq_false (show ¬ (0 ≤ xs[i] ∧ xs[i] ≤ 1000000000000) from c)]; decide)]
def Ok (s t d g f : Int) : Prop := okIn s ∧ (0 ≤ t ∧ t ≤ 400) ∧ (0 ≤ d ∧ d ≤ 1500) ∧ okIn g ∧ okIn f ∧ f = s + t + d + g
theorem last (k : Nat) (s t d g f : Int) : spec_l17SoilOk.l0 (k + 2) [s, t, d, g, f] (([s, t, d, g, f] : List Int).length : Int) ((5 : Nat) : Int) s t d g f =
    some (decide (t ≤ 400) && decide (d ≤ 1500) && (f == (wrap64 ((wrap64 ((wrap64 (s + t)) + d)) + g)))) := by
  simp only [spec_l17SoilOk.l0]
  rw [if_neg (by simp)]
  by_cases h1 : t ≤ 400
  · rw [if_pos h1]
    by_cases h2 : d ≤ 1500
    · rw [if_pos h2, decide_eq_true h1, decide_eq_true h2]; rfl
    · rw [if_neg h2, decide_eq_true h1, decide_eq_false h2]; rfl
  · rw [if_neg h1, decide_eq_false h1]; rfl
theorem sum_id {s t d g : Int} (h : okIn s) (h1 : okIn t) (h2 : okIn d) (h3 : okIn g) : wrap64 ((wrap64 ((wrap64 (s + t)) + d)) + g) = s + t + d + g := by
  unfold okIn at *
  rw [wrap_id (x := s + t) (by omega) (by omega), wrap_id (x := s + t + d) (by omega) (by omega), wrap_id (by omega) (by omega)]
open Classical in
theorem spec_ok (k : Nat) (s t d g f : Int) : spec_l17SoilOk.f (k + 7) s t d g f = some (decide (Ok s t d g f)) := by
  unfold spec_l17SoilOk.f
  rw [Option.bind_some]
  have e0 := one (k + 6) [s, t, d, g, f] 0 s t d g f (by simp) (by simp)
  have e1 := one (k + 5) [s, t, d, g, f] 1 s t d g f (by simp) (by simp)
  have e2 := one (k + 4) [s, t, d, g, f] 2 s t d g f (by simp) (by simp)
  have e3 := one (k + 3) [s, t, d, g, f] 3 s t d g f (by simp) (by simp)
  have e4 := one (k + 2) [s, t, d, g, f] 4 s t d g f (by simp) (by simp)
  have e5 := last k s t d g f
  rw [e5] at e4; rw [e4] at e3; rw [e3] at e2; rw [e2] at e1; rw [e1] at e0
  refine e0.trans ?_
  clear e0 e1 e2 e3 e4 e5
  show (if okIn s then if okIn t then if okIn d then if okIn g then if okIn f then _ else _ else _ else _ else _ else _) = _
  by_cases h0 : okIn s
  · rw [if_pos h0]
    by_cases h1 : okIn t
    · rw [if_pos h1]
      by_cases h2 : okIn d
      · rw [if_pos h2]
        by_cases h3 : okIn g
        · rw [if_pos h3]
          by_cases h4 : okIn f
          · rw [if_pos h4, sum_id h0 h1 h2 h3]
            congr 1
            rw [Bool.eq_iff_iff]
            simp only [Bool.and_eq_true, decide_eq_true_eq, beq_iff_eq]
            unfold Ok
            unfold okIn at *
            constructor
            · rintro ⟨⟨a, b⟩, c⟩; exact ⟨h0, ⟨h1.1, a⟩, ⟨h2.1, b⟩, h3, h4, c⟩
            · rintro ⟨_, a, b, _, _, c⟩; exact ⟨⟨a.2, b.2⟩, c⟩
          · rw [if_neg h4, decide_eq_false (fun h => h4 h.2.2.2.2.1)]
        · rw [if_neg h3, decide_eq_false (fun h => h3 h.2.2.2.1)]
      · rw [if_neg h2, decide_eq_false (fun h => h2 ⟨h.2.2.1.1, by have := h.2.2.1.2; omega⟩)]
    · rw [if_neg h1, decide_eq_false (fun h => h1 ⟨h.2.1.1, by have := h.2.1.2; omega⟩)]
  · rw [if_neg h0, decide_eq_false (fun h => h0 h.1)]
open Classical in
theorem impl_ok (k : Nat) (s t d g f : Int) : impl_soilOk.f (k + 1) s t d g f = some (decide (Ok s t d g f)) := by
  unfold impl_soilOk.f
  simp only [implIn, Option.bind_some, impl_soilOk.j0, decide_eq_true_eq]
  by_cases h0 : 0 ≤ s ∧ s ≤ 1000000000000
  · rw [if_pos h0]
    by_cases h1 : 0 ≤ t ∧ t ≤ 400
    · rw [if_pos h1]
      by_cases h2 : 0 ≤ d ∧ d ≤ 1500
      · rw [if_pos h2]
        by_cases h3 : 0 ≤ g ∧ g ≤ 1000000000000
        · rw [if_pos h3]
          by_cases h4 : 0 ≤ f ∧ f ≤ 1000000000000
          · rw [if_pos h4, sum_id (s := s) (t := t) (d := d) (g := g) h0 ⟨h1.1, by omega⟩ ⟨h2.1, by omega⟩ h3]
            congr 1
            rw [Bool.eq_iff_iff]
            simp only [decide_eq_true_eq, beq_iff_eq]
            constructor
            · intro c; exact ⟨h0, h1, h2, h3, h4, c⟩
            · intro c; exact c.2.2.2.2.2
          · rw [if_neg h4, decide_eq_false (fun h => h4 h.2.2.2.2.1)]
        · rw [if_neg h3, decide_eq_false (fun h => h3 h.2.2.2.1)]
      · rw [if_neg h2, decide_eq_false (fun h => h2 h.2.2.1)]
    · rw [if_neg h1, decide_eq_false (fun h => h1 h.2.1)]
  · rw [if_neg h0, decide_eq_false (fun h => h0 h.1)]
theorem j2_eq (k : Nat) (s t d g f : Int) (ht0 : 0 ≤ t) (ht : t ≤ 3000000000000) (hd0 : 0 ≤ d) (hd : d ≤ 1500) (hg0 : 0 ≤ g) (hg : g ≤ 3000000000000) : spec_SoilStep.j2 (k + 1) s t d g f = impl_SoilStep.j2 (k + 3) s t d g f := by
  simp only [spec_SoilStep.j2, impl_SoilStep.j2, impl_SoilStep.j3, impl_SoilStep.j4]
  have e1 : wrap64 (t - 100) = t - 100 := wrap_id (by omega) (by omega)
  have e2 : wrap64 (1500 - d) = 1500 - d := wrap_id (by omega) (by omega)
  rw [e1, e2]
  by_cases h : t > 100
  · have e3 : mx (t - 100) 0 = t - 100 := by unfold mx; rw [if_neg (by omega)]
    have e4 : wrap64 ((t - 100) / 4) = (t - 100) / 4 := wrap_id (by omega) (by omega)
    rw [if_pos h, Int.tdiv_eq_ediv_of_nonneg (show 0 ≤ t - 100 by omega), e3, e4]
    obtain ⟨q, hq, hq0, hq1, hq2⟩ : ∃ q, mn ((t - 100) / 4) (1500 - d) = q ∧ 0 ≤ q ∧ q ≤ (t - 100) / 4 ∧ q ≤ 1500 - d := ⟨_, rfl, by unfold mn; split <;> omega, by unfold mn; split <;> omega, by unfold mn; split <;> omega⟩
    rw [hq]
    have e5 : wrap64 (t - q) = t - q := wrap_id (by omega) (by omega)
    have e6 : wrap64 (d + q) = d + q := wrap_id (by omega) (by omega)
    rw [e5, e6]
    have e7 : wrap64 (t - q - 400) = t - q - 400 := wrap_id (by omega) (by omega)
    rw [e7]
    by_cases h4 : t - q > 400
    · have e8 : mx (t - q - 400) 0 = t - q - 400 := by unfold mx; rw [if_neg (by omega)]
      rw [if_pos h4, e8, wrap_id (x := t - q - (t - q - 400)) (by omega) (by omega), show t - q - (t - q - 400) = 400 from by omega]
    · have e8 : mx (t - q - 400) 0 = 0 := by unfold mx; split <;> omega
      rw [if_neg h4, e8, wrap_id (x := t - q - 0) (by omega) (by omega), wrap_id (x := g + 0) (by omega) (by omega), Int.sub_zero, Int.add_zero]
  · have e3 : mx (t - 100) 0 = 0 := by unfold mx; split <;> omega
    have e4 : mn (wrap64 (0 / 4)) (1500 - d) = 0 := by
      rw [show ((0 : Int) / 4) = 0 from rfl, wrap_id (by omega) (by omega)]; unfold mn; split <;> omega
    rw [if_neg h, e3, e4, if_neg (show ¬ t > 400 by omega), wrap_id (x := t - 0) (by omega) (by omega), wrap_id (x := d + 0) (by omega) (by omega), Int.sub_zero, Int.add_zero, wrap_id (x := t - 400) (by omega) (by omega)]
    have e8 : mx (t - 400) 0 = 0 := by unfold mx; split <;> omega
    rw [e8, wrap_id (x := t - 0) (by omega) (by omega), wrap_id (x := g + 0) (by omega) (by omega), Int.sub_zero, Int.add_zero]
theorem j1_eq (k : Nat) (x s t d g f : Int) (hx : -800 ≤ x) (hx1 : x ≤ 800) (hs0 : 0 ≤ s) (hs : s ≤ 2000000000000) (ht0 : 0 ≤ t) (ht : t ≤ 2000000000000) (hd0 : 0 ≤ d) (hd : d ≤ 1500) (hg0 : 0 ≤ g) (hg : g ≤ 2000000000000) : spec_SoilStep.j1 (k + 2) x s t d g f = impl_SoilStep.j1 (k + 4) x s t d g f := by
  simp only [spec_SoilStep.j1, impl_SoilStep.j1]
  by_cases h : x > 0
  · rw [if_pos h, if_pos h]
    have e1 : wrap64 (3 * x) = 3 * x := wrap_id (by omega) (by omega)
    rw [e1, Int.tdiv_eq_ediv_of_nonneg (show 0 ≤ 3 * x by omega), Int.tdiv_eq_ediv_of_nonneg (show 0 ≤ x by omega)]
    have e2 : wrap64 (3 * x / 10) = 3 * x / 10 := wrap_id (by omega) (by omega)
    have e3 : wrap64 (x / 20) = x / 20 := wrap_id (by omega) (by omega)
    rw [e2, e3]
    obtain ⟨m, hm, hm0, hm1, hm2⟩ : ∃ q, mn s (3 * x / 10) = q ∧ 0 ≤ q ∧ q ≤ s ∧ q ≤ 3 * x / 10 := ⟨_, rfl, by unfold mn; split <;> omega, by unfold mn; split <;> omega, by unfold mn; split <;> omega⟩
    rw [hm]
    have e4 : wrap64 (s - m) = s - m := wrap_id (by omega) (by omega)
    have e5 : wrap64 (t + m) = t + m := wrap_id (by omega) (by omega)
    rw [e4, e5]
    obtain ⟨n, hn, hn0, hn1, hn2⟩ : ∃ q, mn (t + m) (x / 20) = q ∧ 0 ≤ q ∧ q ≤ t + m ∧ q ≤ x / 20 := ⟨_, rfl, by unfold mn; split <;> omega, by unfold mn; split <;> omega, by unfold mn; split <;> omega⟩
    rw [hn]
    have e6 : wrap64 (t + m - n) = t + m - n := wrap_id (by omega) (by omega)
    have e7 : wrap64 (g + n) = g + n := wrap_id (by omega) (by omega)
    rw [e6, e7]
    exact j2_eq k _ _ _ _ _ (by omega) (by omega) hd0 hd (by omega) (by omega)
  · rw [if_neg h, if_neg h]
    exact j2_eq k _ _ _ _ _ (by omega) (by omega) hd0 hd (by omega) (by omega)
theorem j0_eq (k : Nat) (x r : Int) (b : Bool) (s t d g f : Int) (H : b = false → Ok s t d g f ∧ (-800 ≤ x ∧ x ≤ 800) ∧ (0 ≤ r ∧ r ≤ 5000)) : spec_SoilStep.j0 (k + 3) x r b s t d g f = impl_SoilStep.j0 (k + 5) x r b s t d g f := by
  simp only [spec_SoilStep.j0, impl_SoilStep.j0]
  cases b with
  | true => rfl
  | false =>
    obtain ⟨⟨h0, h1, h2, h3, h4, h5⟩, hx, hr⟩ := H rfl
    unfold okIn at *
    rw [if_neg (show ¬ (false = true) by decide), if_neg (show ¬ (false = true) by decide)]
    by_cases h : x < 0
    · rw [if_pos h, if_pos h, wrap_id (x := s + r) (by omega) (by omega), wrap_id (x := f + r) (by omega) (by omega)]
      exact j1_eq k _ _ _ _ _ _ (by omega) (by omega) (by omega) (by omega) (by omega) (by omega) (by omega) (by omega) (by omega) (by omega)
    · rw [if_neg h, if_neg h, wrap_id (x := t + r) (by omega) (by omega), wrap_id (x := f + r) (by omega) (by omega)]
      exact j1_eq k _ _ _ _ _ _ (by omega) (by omega) (by omega) (by omega) (by omega) (by omega) (by omega) (by omega) (by omega) (by omega)
/-- Where both sides tell something, and the same. -/
theorem j0_some (k : Nat) (x r : Int) (b : Bool) (s t d g f : Int) : ∃ y, spec_SoilStep.j0 (k + 3) x r b s t d g f = some y := by
  simp only [spec_SoilStep.j0, spec_SoilStep.j1, spec_SoilStep.j2]
  split
  · exact ⟨_, rfl⟩
  · split <;> split <;> exact ⟨_, rfl⟩
open Classical in
theorem both (s t d g f x r : Int) : ∃ y, spec_SoilStep.f 10 s t d g f x r = some y ∧ impl_SoilStep.f 12 s t d g f x r = some y := by
  unfold spec_SoilStep.f impl_SoilStep.f
  rw [spec_ok 3, impl_ok 11]
  simp only [Option.bind_some, specIn, implIn]
  by_cases h : Ok s t d g f
  · rw [if_pos (decide_eq_true h), if_pos (decide_eq_true h)]
    by_cases h1 : -800 ≤ x ∧ x ≤ 800
    · rw [if_pos (decide_eq_true h1), if_pos (decide_eq_true h1)]
      by_cases h2 : 0 ≤ r ∧ r ≤ 5000
      · rw [if_pos (decide_eq_true h2), if_pos (decide_eq_true h2)]
        obtain ⟨y, hy⟩ := j0_some 7 x r (decide (f > wrap64 (1000000000000 - r))) s t d g f
        exact ⟨y, hy, (j0_eq 7 x r _ s t d g f (fun _ => ⟨h, h1, h2⟩)).symm.trans hy⟩
      · rw [if_neg (by rw [decide_eq_false h2]; decide), if_neg (by rw [decide_eq_false h2]; decide)]
        exact ⟨_, rfl, rfl⟩
    · rw [if_neg (by rw [decide_eq_false h1]; decide), if_neg (by rw [decide_eq_false h1]; decide)]
      exact ⟨_, rfl, rfl⟩
  · rw [if_neg (by rw [decide_eq_false h]; decide), if_neg (by rw [decide_eq_false h]; decide)]
    exact ⟨_, rfl, rfl⟩

theorem told (s t d g f x r : Int) : laws_FnExactSoilStep.f 12 s t d g f x r = some true := by
  obtain ⟨y, h1, h2⟩ := both s t d g f x r
  have h3 : spec_SoilStep.f 12 s t d g f x r = some y := (spec_SoilStep.mono s t d g f x r 11) _ ((spec_SoilStep.mono s t d g f x r 10) _ h1)
  unfold laws_FnExactSoilStep.f laws_toSoil.f laws_eqSoil.f
  simp only [Option.bind_some, h2, h3, if_true, bne_self_eq_false, Bool.false_eq_true, if_false]
theorem law (s t d g f x r : Int) (w : World) : Calls Try.prog 6 #[.agg #[.int .i64 s, .int .i64 t, .int .i64 d, .int .i64 g, .int .i64 f], .int .i64 x, .int .i64 r] w fun e w' => e = .returned (.bool true) ∧ Below w.heap.size w w' :=
  laws_FnExactSoilStep.calls 12 s t d g f x r true w (told s t d g f x r)

end Go.Proofs.Ytoghojneidpkkaa.PureFnExactSoilStep
