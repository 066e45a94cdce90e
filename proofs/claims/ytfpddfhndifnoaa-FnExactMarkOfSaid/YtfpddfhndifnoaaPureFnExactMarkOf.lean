/- FnExactMarkOf over numbers and bytes alone: the two readings of a mark are one. Conditions: none. -/
import Derived.Test.YtfpddfhndifnoaaPFnExactMarkOfx2
namespace Go.Proofs.Ytfpddfhndifnoaa.Pure
open Go.RowKit Go.Proofs.Ytfpddfhndifnoaa.PFnExactMarkOf Go.Proofs.YtfpddfhndifnoaaW.PrintWords Go.Proofs.YtfpddfhndifnoaaW.PrintLast Go.Proofs.YtfpddfhndifnoaaW.PrintMore
set_option linter.unusedVariables false
set_option linter.unusedSimpArgs false

theorem rd_nat {xs : List Int} {i : Nat} (h : i < xs.length) : rd xs (i : Int) = xs[i] := by
  unfold rd; rw [Int.toNat_natCast, List.getD_eq_getElem?_getD, List.getElem?_eq_getElem h]; rfl
theorem wrap_nat {i : Nat} (h : i < 9223372036854775807) : wrap64 ((i : Int) + 1) = ((i + 1 : Nat) : Int) := by
  unfold wrap64; omega

def up (c : Int) : Bool := !decide (c < 65) && !decide (c > 90)
theorem w0 : wrap64 (0 + 1) = 1 := by unfold wrap64; omega
theorem w1 : wrap64 (1 + 1) = 2 := by unfold wrap64; omega
theorem w2 : wrap64 (2 + 1) = 3 := by unfold wrap64; omega
theorem cap_any (s : ByteArray) (n : Int) (hs : s.size ≤ 140737488351232) : ∀ (d k i : Nat), i + d = s.size → d < k → ∃ r, impl_capitals.l0 k s n (i : Int) = some r ∧ (r = true → (s.size : Int) = n) := by
  intro d
  induction d with
  | zero =>
    intro k i hi hk
    obtain ⟨k, rfl⟩ : ∃ m, k = m + 1 := ⟨k - 1, by omega⟩
    simp only [impl_capitals.l0]
    rw [if_neg (by omega)]
    exact ⟨_, rfl, fun h => by simpa using h⟩
  | succ d ih =>
    intro k i hi hk
    obtain ⟨k, rfl⟩ : ∃ m, k = m + 1 := ⟨k - 1, by omega⟩
    simp only [impl_capitals.l0]
    rw [if_pos (by omega), if_pos (by omega)]
    split
    · exact ⟨_, rfl, fun h => by cases h⟩
    · split
      · exact ⟨_, rfl, fun h => by cases h⟩
      · rw [wrap_nat (by omega)]
        exact ih k (i + 1) (by omega) (by omega)
theorem cap_three (s : ByteArray) (k : Nat) (hs : s.size = 3) : impl_capitals.f (k + 4) s 3 = some (up (bt s 0) && (up (bt s 1) && up (bt s 2))) := by
  have e : (s.size : Int) = 3 := by omega
  unfold impl_capitals.f
  simp only [impl_capitals.l0, e, w0, w1, w2]
  unfold up
  by_cases a1 : bt s 0 < 65
  · simp [a1]
  · by_cases a2 : bt s 0 > 90
    · simp [a1, a2]
    · by_cases b1 : bt s 1 < 65
      · simp [a1, a2, b1]
      · by_cases b2 : bt s 1 > 90
        · simp [a1, a2, b1, b2]
        · by_cases c1 : bt s 2 < 65
          · simp [a1, a2, b1, b2, c1]
          · by_cases c2 : bt s 2 > 90
            · simp [a1, a2, b1, b2, c1, c2]
            · simp [a1, a2, b1, b2, c1, c2]
theorem let_three (s : ByteArray) (k : Nat) (hs : s.size = 3) : spec_l4Letters.f (k + 4) s = some (up (bt s 0) && (up (bt s 1) && up (bt s 2))) := by
  have e : (s.size : Int) = 3 := by omega
  unfold spec_l4Letters.f
  simp only [spec_l4Letters.l0, e, w0, w1, w2]
  unfold up
  by_cases a1 : bt s 0 < 65
  · simp [a1]
  · by_cases a2 : bt s 0 > 90
    · simp [a1, a2]
    · by_cases b1 : bt s 1 < 65
      · simp [a1, a2, b1]
      · by_cases b2 : bt s 1 > 90
        · simp [a1, a2, b1, b2]
        · by_cases c1 : bt s 2 < 65
          · simp [a1, a2, b1, b2, c1]
          · by_cases c2 : bt s 2 > 90
            · simp [a1, a2, b1, b2, c1, c2]
            · simp [a1, a2, b1, b2, c1, c2]
theorem head_two (s : ByteArray) (hs : s.size = 3) (p q : UInt8) : ((s.extract 0 2).toList = (⟨#[p, q]⟩ : ByteArray).toList) ↔ (bt s 0 = (p.toNat : Int) ∧ bt s 1 = (q.toNat : Int)) := by
  rw [ByteArray.toList_eq, ByteArray.toList_eq]
  obtain ⟨⟨l⟩⟩ := s
  match l, hs with
  | [x, y, z], _ =>
    have e0 : bt ⟨⟨[x, y, z]⟩⟩ 0 = (x.toNat : Int) := rfl
    have e1 : bt ⟨⟨[x, y, z]⟩⟩ 1 = (y.toNat : Int) := rfl
    rw [e0, e1]
    have : (ByteArray.extract ⟨⟨[x, y, z]⟩⟩ 0 2).data.toList = [x, y] := by rw [ByteArray.data_extract]; rfl
    rw [this]
    simp only [List.cons.injEq, and_true]
    constructor
    · rintro ⟨rfl, rfl⟩; exact ⟨rfl, rfl⟩
    · rintro ⟨h1, h2⟩
      exact ⟨UInt8.toNat_inj.1 (by omega), UInt8.toNat_inj.1 (by omega)⟩
theorem impl_round (s : ByteArray) (k : Nat) (hs : s.size = 3) : impl_MarkOf.l0 (k + 4) s [(⟨#[82, 82]⟩ : ByteArray), (⟨#[67, 67]⟩ : ByteArray), (⟨#[65, 65]⟩ : ByteArray)] 3 0 =
    if bt s 0 = 82 ∧ bt s 1 = 82 ∧ bt s 2 ≤ 88 then some (1, (bt s 2 - 65) % 256 + 1) else if bt s 0 = 67 ∧ bt s 1 = 67 ∧ bt s 2 ≤ 88 then some (2, (bt s 2 - 65) % 256 + 1) else if bt s 0 = 65 ∧ bt s 1 = 65 ∧ bt s 2 ≤ 88 then some (3, (bt s 2 - 65) % 256 + 1) else some (-1, 0) := by
  have e : (s.size : Int) = 3 := by omega
  have r0 : rdOf ByteArray.empty [(⟨#[82, 82]⟩ : ByteArray), (⟨#[67, 67]⟩ : ByteArray), (⟨#[65, 65]⟩ : ByteArray)] 0 = ⟨#[82, 82]⟩ := rfl
  have r1 : rdOf ByteArray.empty [(⟨#[82, 82]⟩ : ByteArray), (⟨#[67, 67]⟩ : ByteArray), (⟨#[65, 65]⟩ : ByteArray)] 1 = ⟨#[67, 67]⟩ := rfl
  have r2 : rdOf ByteArray.empty [(⟨#[82, 82]⟩ : ByteArray), (⟨#[67, 67]⟩ : ByteArray), (⟨#[65, 65]⟩ : ByteArray)] 2 = ⟨#[65, 65]⟩ := rfl
  have h82 : ((82 : UInt8).toNat : Int) = 82 := rfl
  have h67 : ((67 : UInt8).toNat : Int) = 67 := rfl
  have h65 : ((65 : UInt8).toNat : Int) = 65 := rfl
  simp only [impl_MarkOf.l0, e, w0, w1, w2, r0, r1, r2, head_two s hs, h82, h67, h65]
  by_cases a1 : bt s 0 = 82
  · by_cases a2 : bt s 1 = 82
    · by_cases a3 : bt s 2 ≤ 88 <;> simp [a1, a2, a3]
    · simp [a1, a2]
  · by_cases b1 : bt s 0 = 67
    · by_cases b2 : bt s 1 = 67
      · by_cases b3 : bt s 2 ≤ 88 <;> simp [b1, b2, b3]
      · simp [b1, b2]
    · by_cases c1 : bt s 0 = 65
      · by_cases c2 : bt s 1 = 65
        · by_cases c3 : bt s 2 ≤ 88 <;> simp [c1, c2, c3]
        · simp [c1, c2]
      · simp [a1, b1, c1]
theorem both (s : ByteArray) (k : Nat) (hs : s.size ≤ 1048576) (hk : 1048580 < k) : ∃ t, spec_MarkOf.f (k + 4) s = some t ∧ impl_MarkOf.f (k + 4) s = some t := by
  unfold spec_MarkOf.f impl_MarkOf.f
  by_cases h0 : s.toList = ([] : List UInt8)
  · rw [if_pos h0, if_pos h0]; exact ⟨_, rfl, rfl⟩
  · rw [if_neg h0, if_neg h0]
    by_cases h3 : s.size = 3
    · have e : (s.size : Int) = 3 := by omega
      rw [if_pos e, let_three s k h3, cap_three s k h3]
      simp only [Option.bind_some]
      cases hu : (up (bt s 0) && (up (bt s 1) && up (bt s 2))) with
      | false =>
        refine ⟨(-1, 0), ?_, ?_⟩
        · simp only [spec_MarkOf.j0, Bool.not_false, if_true]
        · rfl
      | true =>
        have hl : ((([(⟨#[82, 82]⟩ : ByteArray), (⟨#[67, 67]⟩ : ByteArray), (⟨#[65, 65]⟩ : ByteArray)] : List ByteArray).length : Nat) : Int) = 3 := rfl
        simp only [spec_MarkOf.j0, spec_MarkOf.j1, e, Bool.not_true, Bool.false_eq_true, if_false, if_true, hl, impl_round s k h3]
        unfold up at hu
        simp only [Bool.and_eq_true, Bool.not_eq_true', decide_eq_false_iff_not] at hu
        obtain ⟨⟨u1, u2⟩, ⟨u3, u4⟩, u5, u6⟩ := hu
        have m1 : (bt s 1 - 65) % 256 = bt s 1 - 65 := by omega
        have m2 : (bt s 2 - 65) % 256 = bt s 2 - 65 := by omega
        simp only [m1, m2]
        by_cases p : bt s 0 = 80
        · simp only [p, if_true]
          refine ⟨(4, (bt s 1 - 65) * 26 + (bt s 2 - 65 + 1)), by simp, ?_⟩
          simp
          omega
        · by_cases q : bt s 0 = bt s 1
          · by_cases z : bt s 2 ≤ 88
            · have z' : ¬ (bt s 2 - 65 + 1 > 24) := by omega
              by_cases a : bt s 1 = 82
              · exact ⟨(1, bt s 2 - 65 + 1), by simp [p, q, z', a], by simp [p, q, z, a]⟩
              · by_cases b : bt s 1 = 67
                · exact ⟨(2, bt s 2 - 65 + 1), by simp [p, q, z', b], by simp [p, q, z, b]⟩
                · by_cases c : bt s 1 = 65
                  · exact ⟨(3, bt s 2 - 65 + 1), by simp [p, q, z', c], by simp [p, q, z, c]⟩
                  · have p' : ¬ bt s 1 = 80 := by omega
                    exact ⟨(-1, 0), by simp [p', q, z', a, b, c], by simp [p', q, a, b, c]⟩
            · have z' : bt s 2 - 65 + 1 > 24 := by omega
              have p' : ¬ bt s 1 = 80 := by omega
              exact ⟨(-1, 0), by simp [p', q, z'], by simp [p', q, z]⟩
          · have n1 : ¬ (bt s 0 = 82 ∧ bt s 1 = 82 ∧ bt s 2 ≤ 88) := by omega
            have n2 : ¬ (bt s 0 = 67 ∧ bt s 1 = 67 ∧ bt s 2 ≤ 88) := by omega
            have n3 : ¬ (bt s 0 = 65 ∧ bt s 1 = 65 ∧ bt s 2 ≤ 88) := by omega
            refine ⟨(-1, 0), by simp [p, q], ?_⟩
            rw [if_pos (by omega), if_neg p, if_neg n1, if_neg n2, if_neg n3]
    · obtain ⟨r, hr, hr2⟩ := cap_any s 3 (by omega) s.size (k + 4) 0 (by omega) (by omega)
      have hr' : impl_capitals.f (k + 4) s 3 = some r := hr
      have hf : r = false := by
        cases r with
        | false => rfl
        | true => have := hr2 rfl; omega
      subst hf
      rw [if_neg (by omega), hr']
      refine ⟨(-1, 0), ?_, rfl⟩
      simp only [spec_MarkOf.j0, if_true]

theorem FnExactMarkOf : laws_FnExactMarkOf.Pure := by
  intro s _
  refine ⟨1048590 + 4, ?_⟩
  unfold laws_FnExactMarkOf.f
  by_cases hb : (s.size : Int) > 1048576
  · rw [if_pos hb]
  · rw [if_neg hb]
    obtain ⟨t, he, ht⟩ := both s 1048590 (by omega) (by omega)
    simp only [Option.bind_some, he, ht, if_true]

end Go.Proofs.Ytfpddfhndifnoaa.Pure
