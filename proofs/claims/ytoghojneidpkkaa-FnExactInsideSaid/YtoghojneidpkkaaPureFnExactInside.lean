/-
  The pure law of FnExactInside: both sides tell the same; the law's contract.
  Conditions: none.
-/
import Derived.Test.YtoghojneidpkkaaQFnExactInsidex3
namespace Go.Proofs.Ytoghojneidpkkaa.PureFnExactInside
open Go Go.RowKit Go.Proofs.Ytoghojneidpkkaa.PFnExactInside Go.Proofs.YtoghojneidpkkaaW.PrintWords Go.Proofs.YtoghojneidpkkaaW.PrintLast Go.Proofs.YtoghojneidpkkaaW.PrintMore

theorem wrap_nat {i : Nat} (h : i < 9223372036854775807) : wrap64 ((i : Int) + 1) = ((i + 1 : Nat) : Int) := by
  unfold wrap64; omega
theorem wrap_id {x : Int} (h0 : -9000000000000000000 ≤ x) (h1 : x ≤ 9000000000000000000) : wrap64 x = x := by unfold wrap64; omega
theorem rd58 {xs : List S58} {i : Nat} (h : i < xs.length) : rd_T58 xs (i : Int) = xs[i] := by
  unfold rd_T58; rw [Int.toNat_natCast, List.getD_eq_getElem?_getD, List.getElem?_eq_getElem h]; rfl
theorem rd63 {xs : List S63} {i : Nat} (h : i < xs.length) : rd_T63 xs (i : Int) = xs[i] := by
  unfold rd_T63; rw [Int.toNat_natCast, List.getD_eq_getElem?_getD, List.getElem?_eq_getElem h]; rfl
theorem in_same (l : List S63) (px py : Int) : ∀ (k : Nat) (b : Bool) (i : Int), impl_Inside.l0 k l b l (l.length : Int) i px py = spec_Inside.l0 k l b i px py
  | 0, _, _ => rfl
  | k + 1, b, i => by
    have ih := in_same l px py k
    simp only [impl_Inside.l0, spec_Inside.l0, ih]
    by_cases h : i < (l.length : Int)
    · rw [if_pos h, if_pos h, if_pos h]
    · rw [if_neg h, if_neg h]
theorem in_some (l : List S63) (px py : Int) (h1 : l.length ≤ 1000) : ∀ (d k : Nat) (b : Bool) (i : Int), ((l.length : Int) - i).toNat ≤ d → d < k → 0 ≤ i → ∃ r, spec_Inside.l0 k l b i px py = some r
  | d, k, b, i, hd, hk, h0 => by
    obtain ⟨k, rfl⟩ : ∃ j, k = j + 1 := ⟨k - 1, by omega⟩
    simp only [spec_Inside.l0]
    by_cases h : i < (l.length : Int)
    · obtain ⟨d, rfl⟩ : ∃ j, d = j + 1 := ⟨d - 1, by omega⟩
      have ih := fun b => in_some l px py h1 d k b (i + 1) (by omega) (by omega) (by omega)
      rw [if_pos h, if_pos h0, if_neg (by omega), wrap_id (x := i + 1) (by omega) (by omega), if_pos (Int.tmod_nonneg _ (by omega)), if_pos (Int.tmod_lt_of_pos _ (by omega))]
      repeat' split
      all_goals exact ih _
    · rw [if_neg h]; exact ⟨b, rfl⟩
theorem area_l0 (l : List S63) : ∀ (k : Nat) (i : Int), impl_areaOk.l0 k l i = spec_l22AreaOk.l0 k l i
  | 0, _ => rfl
  | k + 1, i => by simp only [impl_areaOk.l0, spec_l22AreaOk.l0, area_l0 l k]
theorem area_same (k : Nat) (l : List S63) : impl_areaOk.f k l = spec_l22AreaOk.f k l := by
  unfold impl_areaOk.f spec_l22AreaOk.f
  cases k with
  | zero => rfl
  | succ k => simp only [impl_areaOk.j0, spec_l22AreaOk.j0, area_l0]
theorem spot_some (x y : Int) : ∃ r, spec_l22SpotOk.f x y = some r := by
  unfold spec_l22SpotOk.f spec_l2In.f
  by_cases h : x ≥ -1000000
  · rw [if_pos h]
    simp only [Option.bind_some]
    split
    · split <;> exact ⟨_, rfl⟩
    · exact ⟨_, rfl⟩
  · rw [if_neg h]; exact ⟨_, rfl⟩
theorem area_some0 (l : List S63) (h1 : l.length ≤ 1000) : ∀ (d k : Nat) (i : Int), ((l.length : Int) - i).toNat ≤ d → d < k → 0 ≤ i → ∃ r, spec_l22AreaOk.l0 k l i = some r
  | d, k, i, hd, hk, h0 => by
    obtain ⟨k, rfl⟩ : ∃ j, k = j + 1 := ⟨k - 1, by omega⟩
    simp only [spec_l22AreaOk.l0]
    by_cases h : i < (l.length : Int)
    · obtain ⟨d, rfl⟩ : ∃ j, d = j + 1 := ⟨d - 1, by omega⟩
      have ih := area_some0 l h1 d k (i + 1) (by omega) (by omega) (by omega)
      obtain ⟨r, hr⟩ := spot_some (rd_T63 l i).f0 (rd_T63 l i).f1
      rw [if_pos h, if_pos h0, hr, wrap_id (x := i + 1) (by omega) (by omega)]
      simp only [Option.bind_some]
      split
      · exact ih
      · exact ⟨_, rfl⟩
    · rw [if_neg h]; exact ⟨_, rfl⟩
/-- The test of an area tells something; where it says yes, the area is short. -/
theorem area_some (k : Nat) (l : List S63) (hk : 100 ≤ k) : ∃ r, spec_l22AreaOk.f k l = some r ∧ (r = true → l.length ≤ 40) := by
  unfold spec_l22AreaOk.f
  obtain ⟨k, rfl⟩ : ∃ j, k = j + 1 := ⟨k - 1, by omega⟩
  simp only [spec_l22AreaOk.j0]
  by_cases h : (l.length : Int) < 3
  · rw [if_pos h]; exact ⟨false, rfl, fun h => by cases h⟩
  · rw [if_neg h]
    by_cases h2 : (l.length : Int) > 40
    · rw [decide_eq_true h2]; exact ⟨false, rfl, fun h => by cases h⟩
    · rw [decide_eq_false h2, if_neg (show ¬ (false = true) by decide)]
      obtain ⟨r, hr⟩ := area_some0 l (by omega) 50 k 0 (by omega) (by omega) (by omega)
      exact ⟨r, hr, fun _ => by omega⟩
theorem both (k : Nat) (l : List S63) (px py : Int) (hk : 100 ≤ k) : ∃ r, spec_Inside.f k l px py = some r ∧ impl_Inside.f k l px py = some r := by
  obtain ⟨a, ha, ha'⟩ := area_some k l hk
  obtain ⟨b, hb⟩ := spot_some px py
  unfold spec_Inside.f impl_Inside.f
  rw [area_same, ← spot_same, ha, hb]
  obtain ⟨k, rfl⟩ : ∃ j, k = j + 1 := ⟨k - 1, by omega⟩
  simp only [Option.bind_some, spec_Inside.j0, impl_Inside.j0, in_same]
  cases a with
  | false => exact ⟨false, rfl, rfl⟩
  | true =>
    rw [if_pos rfl]
    cases b with
    | false => exact ⟨false, rfl, rfl⟩
    | true =>
      obtain ⟨r, hr⟩ := in_some l px py (by have := ha' rfl; omega) 50 k false 0 (by have := ha' rfl; omega) (by omega) (by omega)
      exact ⟨r, hr, hr⟩
def cv (x : S58) : S63 := ⟨x.f0, x.f1⟩
theorem toSpots_l0 (xs : List S58) (hn : xs.length ≤ 140737488351232) : ∀ (d k i : Nat) (ys : List S63), i + d = xs.length → d < k → ys.length = xs.length → ys.take i = (xs.map cv).take i →
    laws_toSpotS.l0 k xs ys (i : Int) = some (xs.map cv) := by
  intro d
  induction d with
  | zero =>
    intro k i ys hi hk hl ht
    obtain ⟨k, rfl⟩ : ∃ m, k = m + 1 := ⟨k - 1, by omega⟩
    rw [List.take_of_length_le (by omega), List.take_of_length_le (by rw [List.length_map]; omega)] at ht
    simp only [laws_toSpotS.l0]
    rw [if_neg (by omega), ht]
  | succ d ih =>
    intro k i ys hi hk hl ht
    obtain ⟨k, rfl⟩ : ∃ m, k = m + 1 := ⟨k - 1, by omega⟩
    have hlt : i < xs.length := by omega
    have hlm : i < (xs.map cv).length := by rw [List.length_map]; exact hlt
    simp only [laws_toSpotS.l0]
    rw [if_pos (by omega), if_pos (by omega), rd58 hlt, wrap_nat (by omega), Int.toNat_natCast]
    unfold laws_toSpot.f
    simp only [Option.bind_some]
    rw [if_pos (by omega)]
    refine ih k (i + 1) _ (by omega) (by omega) (by rw [List.length_set]; exact hl) ?_
    rw [List.take_succ_eq_append_getElem (by rw [List.length_set]; omega), List.take_succ_eq_append_getElem hlm, List.take_set_of_le (Nat.le_refl i), ht, List.getElem_set_self, List.getElem_map]
    rfl
theorem toSpots (xs : List S58) (k : Nat) (hn : xs.length ≤ 1048576) (hk : xs.length < k) : laws_toSpotS.f k xs = some (xs.map cv) := by
  unfold laws_toSpotS.f
  rw [if_pos (by omega), if_pos (by omega)]
  exact toSpots_l0 xs (by omega) xs.length k 0 _ (by omega) hk (by simp) rfl
theorem eqSpots_l0 (xs : List S63) (hn : xs.length ≤ 140737488351232) : ∀ (d k i : Nat), i + d = xs.length → d < k → laws_eqSpotS.l0 k xs xs (i : Int) = some true := by
  intro d
  induction d with
  | zero =>
    intro k i hi hk
    obtain ⟨k, rfl⟩ : ∃ m, k = m + 1 := ⟨k - 1, by omega⟩
    simp only [laws_eqSpotS.l0]
    rw [if_neg (by omega)]
  | succ d ih =>
    intro k i hi hk
    obtain ⟨k, rfl⟩ : ∃ m, k = m + 1 := ⟨k - 1, by omega⟩
    simp only [laws_eqSpotS.l0]
    unfold laws_eqSpot.f
    rw [if_pos (by omega), if_pos (by omega), if_pos (by omega), if_pos rfl, if_pos rfl, wrap_nat (by omega)]
    exact ih k (i + 1) (by omega) (by omega)
theorem eqSpots (xs : List S63) (k : Nat) (hn : xs.length ≤ 140737488351232) (hk : xs.length < k) : laws_eqSpotS.f k xs xs = some true := by
  unfold laws_eqSpotS.f
  rw [if_pos rfl]
  exact eqSpots_l0 xs hn xs.length k 0 (by omega) hk
theorem told (xs : List S58) (px py : Int) (hn : xs.length ≤ 9223372036854775807) (k : Nat) (hk : 1048700 ≤ k) : laws_FnExactInside.f k xs px py = some true := by
  unfold laws_FnExactInside.f laws_szSpotS.f
  rw [show wrap64 (1048576 - (xs.length : Int)) = 1048576 - (xs.length : Int) from by unfold wrap64; omega]
  by_cases h : 1048576 - (xs.length : Int) < 0
  · rw [if_pos h]; rfl
  · rw [if_neg h]
    have hl : (xs.map cv).length = xs.length := List.length_map ..
    obtain ⟨r, h1, h2⟩ := both k (xs.map cv) px py (by omega)
    have h3 := toSpots xs k (by omega) (by omega)
    have h4 := eqSpots (xs.map cv) k (by omega) (by omega)
    unfold laws_toSpot.f
    simp only [Option.bind_some, h3, h1, h2, h4, if_neg h, bne_self_eq_false, Bool.false_eq_true, if_false, if_true]
theorem law (A0 : Option Addr) (c0 : Nat) (xs : List S58) (px py : Int) (w : World) (hr0 : Kd.C k58 w A0 xs.length xs) (hc0 : xs.length ≤ c0) (hn : xs.length ≤ 9223372036854775807) :
    Calls Try.prog 10 #[.slice A0 xs.length c0, .agg #[.int .i64 px, .int .i64 py]] w fun e w' => e = .returned (.bool true) ∧ Below w.heap.size w w' :=
  laws_FnExactInside.calls 1048700 A0 c0 xs px py true w hr0 hc0 (told xs px py hn 1048700 (Nat.le_refl _))

end Go.Proofs.Ytoghojneidpkkaa.PureFnExactInside
