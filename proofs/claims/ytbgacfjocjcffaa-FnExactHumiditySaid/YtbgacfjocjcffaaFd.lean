/-
  Contracts of DewOf (both sides); the law of DewOf.
  Conditions: none.
-/
import Derived.Test.YtbgacfjocjcffaaFv
namespace Go.Proofs.Ytbgacfjocjcffaa.Fd
open Go Go.RowKit Go.Proofs.Ytbgacfjocjcffaa.Fk Go.Proofs.Ytbgacfjocjcffaa.Qs Go.Proofs.Ytbgacfjocjcffaa.Fw Go.Proofs.Ytbgacfjocjcffaa.Fc Go.Proofs.Ytbgacfjocjcffaa.Fv
attribute [local go_sem] run_store_float drewN_setCell drewN_alloc

def knO (c : Option Nat) : Bool := match c with | none => false | some x => kn x
theorem kn_can (x : Nat) : kn x = knO (can x) := by
  cases h : nan x with
  | true =>
    rw [can_nan h]
    cases hk : kn x with
    | false => rfl
    | true => rw [kn_real hk] at h; cases h
  | false => rw [can_real h]; rfl
theorem kn_of {x : Nat} {c : Option Nat} (h : can x = c) : kn x = knO c := by rw [kn_can, h]
def inrO (c : Option Nat) : Bool := (ford c (some 13855605728582041600) == some .gt || ford c (some 13855605728582041600) == some .eq) && (ford c (some 4632233691727265792) == some .lt || ford c (some 4632233691727265792) == some .eq)
def vapO (c : Option Nat) : Option Nat := if inrO c then vp c 6 else none
theorem can_m50 : can 13855605728582041600 = some 13855605728582041600 := by decide
theorem can_p50 : can 4632233691727265792 = some 4632233691727265792 := by decide
theorem can_two : can 4611686018427387904 = some 4611686018427387904 := by decide
theorem can_hundred : can 4636737291354636288 = some 4636737291354636288 := by decide
theorem inr_can (a : Nat) : inr a = inrO (can a) := by unfold inr inrO; rw [order_can, order_can, can_m50, can_p50]
theorem vap_can (a : Nat) : vap a = vapO (can a) := by unfold vap vapO; rw [inr_can]

def dmid (s : Option Nat × Option Nat) : Option Nat := fop .quo (fop .add s.1 s.2) (some 4611686018427387904)
def dcold (want : Option Nat) (m : Option Nat) : Bool := ford (fop .mul (vapO m) (some 4636737291354636288)) want == some .lt
def ds (want t : Option Nat) : Nat → Option Nat × Option Nat
  | 0 => (some 13855605728582041600, t)
  | k + 1 => if dcold want (dmid (ds want t k)) then (dmid (ds want t k), (ds want t k).2) else ((ds want t k).1, dmid (ds want t k))
def hOk (h : Nat) : Bool := FloatKind.f64.format.order h 0 == some .gt && (FloatKind.f64.format.order h 4636737291354636288 == some .lt || FloatKind.f64.format.order h 4636737291354636288 == some .eq)
def dew (t h : Nat) : Option Nat := if knO (vap t) && hOk h then (ds (fop .mul (can h) (vap t)) (can t) 60).2 else none

theorem dec60 {k : Nat} (h : k < 60) : 60 - (intOf (Value.int IntKind.i64 ((k : Int) + 1))).toNat < 60 - (intOf (Value.int IntKind.i64 (k : Int))).toNat := by
  show 60 - ((k : Int) + 1).toNat < 60 - (k : Int).toNat
  omega
theorem ds_step {want t : Option Nat} {k l g r1 m rv r q : Nat} {b : Bool} (hL : can l = (ds want t k).1) (hG : can g = (ds want t k).2) (h1 : can r1 = fop .add (can l) (can g)) (h2 : can m = fop .quo (can r1) (can 4611686018427387904))
    (h3 : can rv = vap m) (h4 : can r = fop .mul (can rv) (can 4636737291354636288)) (hw : can q = want) (hc : (FloatKind.f64.format.order r q == some .lt) = b) : ds want t (k + 1) = if b then (can m, can g) else (can l, can m) := by
  have hm : dmid (ds want t k) = can m := by unfold dmid; rw [h2, h1, hL, hG, can_two]
  have hd : dcold want (dmid (ds want t k)) = b := by unfold dcold; rw [hm, ← hc, order_can, h4, h3, vap_can, hw, can_hundred]
  rw [ds, hd, hm, hL, hG]

set_option maxHeartbeats 4000000 in
theorem specDew_any (t h : Nat) (ht : t < 18446744073709551616) (w : World) : Calls Try.prog 57 #[.float .f64 t, .float .f64 h] w fun e w' => ∃ r, e = .returned (.float .f64 r) ∧ can r = dew t h ∧ r < 18446744073709551616 ∧ Below w.heap.size w w' := by
  have HB := Lib.hid (Below.refl w.heap.size w)
  cases h1 : knO (vap t)
  · go_enter Try.func57, Try.ntmps57
    go_wp2_with (first
      | (go_at_call 30; refine (specVapour_any _ _).mono ?_; rintro e w' ⟨rs, rfl, hs, ls, hb⟩; replace HB := Lib.hid (Fv.step HB.out hb); have q1 := (kn_of hs).trans h1; have hs' := Lib.hid hs; clear hs hb)
      | (go_at_call 20; refine (specKnown_any _ _).mono ?_; rintro e w' ⟨rfl, n, rfl⟩)
      | (go_at_call 68; refine (l1None_any _).mono ?_; rintro e w' ⟨r, n, rfl, rfl, hr, hl⟩; have hr' := Lib.hid hr; clear hr))
    go_ret
    exact ⟨_, rfl, by rw [hr'.out]; unfold dew; rw [h1]; rfl, hl, draws HB.out _⟩
  · cases h2 : (FloatKind.f64.format.order h 0 == some .gt)
    · go_enter Try.func57, Try.ntmps57
      go_wp2_with (first
        | (go_at_call 30; refine (specVapour_any _ _).mono ?_; rintro e w' ⟨rs, rfl, hs, ls, hb⟩; replace HB := Lib.hid (Fv.step HB.out hb); have q1 := (kn_of hs).trans h1; have hs' := Lib.hid hs; clear hs hb)
        | (go_at_call 20; refine (specKnown_any _ _).mono ?_; rintro e w' ⟨rfl, n, rfl⟩)
        | (go_at_call 68; refine (l1None_any _).mono ?_; rintro e w' ⟨r, n, rfl, rfl, hr, hl⟩; have hr' := Lib.hid hr; clear hr))
      go_ret
      exact ⟨_, rfl, by rw [hr'.out]; unfold dew hOk; rw [h1, h2]; rfl, hl, draws HB.out _⟩
    · cases h3 : (FloatKind.f64.format.order h 4636737291354636288 == some .lt || FloatKind.f64.format.order h 4636737291354636288 == some .eq)
      · go_enter Try.func57, Try.ntmps57
        go_wp2_with (first
          | (go_at_call 30; refine (specVapour_any _ _).mono ?_; rintro e w' ⟨rs, rfl, hs, ls, hb⟩; replace HB := Lib.hid (Fv.step HB.out hb); have q1 := (kn_of hs).trans h1; have hs' := Lib.hid hs; clear hs hb)
          | (go_at_call 20; refine (specKnown_any _ _).mono ?_; rintro e w' ⟨rfl, n, rfl⟩)
          | (go_at_call 68; refine (l1None_any _).mono ?_; rintro e w' ⟨r, n, rfl, rfl, hr, hl⟩; have hr' := Lib.hid hr; clear hr))
        go_ret
        exact ⟨_, rfl, by rw [hr'.out]; unfold dew hOk; rw [h1, h2, h3]; rfl, hl, draws HB.out _⟩
      · go_enter Try.func57, Try.ntmps57
        go_wp2_with (first
          | (go_at_call 30; refine (specVapour_any _ _).mono ?_; rintro e w' ⟨rs, rfl, hs, ls, hb⟩; replace HB := Lib.hid (Fv.step HB.out hb); have q1 := (kn_of hs).trans h1; have hs' := Lib.hid hs; clear hs hb)
          | (go_at_call 20; refine (specKnown_any _ _).mono ?_; rintro e w' ⟨rfl, n, rfl⟩)
          | (refine wpList_fop rfl rfl (by decide) rfl rfl ?_; intro r n hr hl; have hr' := Lib.hid hr; clear hr))
        have hw := Lib.hid (hr'.out.trans (by rw [hs'.out]))
        have lr := Lib.hid hl
        go_loopw [6, 7, 9] (fun v6 v7 v9 wr => ∃ (k l g : Nat), k ≤ 60 ∧ v9 = .int .i64 k ∧ v6 = .float .f64 l ∧ v7 = .float .f64 g ∧ Hid (can l = (ds (fop .mul (can h) (vap t)) (can t) k).1) ∧ Hid (can g = (ds (fop .mul (can h) (vap t)) (can t) k).2) ∧ Hid (g < 18446744073709551616) ∧ Hid (Below w.heap.size w wr)) (fun _ _ i _ => 60 - (intOf i).toNat)
        case atStart => exact ⟨0, _, _, by omega, rfl, rfl, rfl, can_m50, Lib.hid rfl, Lib.hid ht, Lib.hid (draws HB.out _)⟩
        case round =>
          clear HB hr' hl
          obtain ⟨k, l, g, hk, rfl, rfl, rfl, hL, hG, hg, HB⟩ := hrel
          by_cases hk6 : k = 60
          · subst hk6
            go_wp2
            go_ret
            exact ⟨_, rfl, by rw [hG.out]; unfold dew hOk; rw [h1, h2, h3]; rfl, hg.out, HB.out⟩
          · have hk5 : k < 60 := by omega
            have hc : decide ((k : Int) < 60) = true := decide_eq_true (by omega)
            go_wp2_with (first
              | (go_at_call 30; refine (specVapour_any _ _).mono ?_; rintro e w' ⟨rv, rfl, hv, lv, hb⟩; replace HB := Lib.hid (Fv.step (draws HB.out _) hb); have hv' := Lib.hid hv; clear hv hb)
              | (refine wpList_fop rfl rfl (by decide) rfl rfl ?_; intro r n hr hl; have hr' := Lib.hid hr; clear hr))
            · rename_i r1 n1 l1 hr1 m n2 l2 hm hcd
              have e := ds_step (k := k) hL.out hG.out hr1.out hm.out hv'.out hr'.out hw.out hcd
              exact ⟨⟨k + 1, m, g, by omega, rfl, rfl, rfl, Lib.hid (by rw [e]; rfl), Lib.hid (by rw [e]; rfl), hg, Lib.hid (draws HB.out _)⟩, dec60 hk5⟩
            · rename_i r1 n1 l1 hr1 m n2 l2 hm hcd
              have e := ds_step (k := k) hL.out hG.out hr1.out hm.out hv'.out hr'.out hw.out hcd
              exact ⟨⟨k + 1, l, m, by omega, rfl, rfl, rfl, Lib.hid (by rw [e]; rfl), Lib.hid (by rw [e]; rfl), Lib.hid l2, Lib.hid (draws HB.out _)⟩, dec60 hk5⟩

set_option maxHeartbeats 4000000 in
theorem implDew_any (t h : Nat) (ht : t < 18446744073709551616) (w : World) : Calls Try.prog 58 #[.float .f64 t, .float .f64 h] w fun e w' => ∃ r, e = .returned (.float .f64 r) ∧ can r = dew t h ∧ r < 18446744073709551616 ∧ Below w.heap.size w w' := by
  have HB := Lib.hid (Below.refl w.heap.size w)
  cases h1 : knO (vap t)
  · go_enter Try.func58, Try.ntmps58
    go_wp2_with (first
      | (go_at_call 31; refine (implVapour_any _ _).mono ?_; rintro e w' ⟨rs, rfl, hs, ls, hb⟩; replace HB := Lib.hid (Fv.step HB.out hb); have q1 := (kn_of hs).trans h1; have hs' := Lib.hid hs; clear hs hb)
      | (go_at_call 21; refine (implKnown_any _ ls _).mono ?_; rintro e w' ⟨rfl, rfl⟩)
      | (go_at_call 69; refine (nan_any _).mono ?_; rintro e w' ⟨rfl, rfl⟩))
    go_ret
    exact ⟨_, rfl, by unfold dew; rw [h1]; exact can_qnan, by omega, HB.out⟩
  · cases h2 : (FloatKind.f64.format.order h 0 == some .gt)
    · go_enter Try.func58, Try.ntmps58
      go_wp2_with (first
        | (go_at_call 31; refine (implVapour_any _ _).mono ?_; rintro e w' ⟨rs, rfl, hs, ls, hb⟩; replace HB := Lib.hid (Fv.step HB.out hb); have q1 := (kn_of hs).trans h1; have hs' := Lib.hid hs; clear hs hb)
        | (go_at_call 21; refine (implKnown_any _ ls _).mono ?_; rintro e w' ⟨rfl, rfl⟩)
        | (go_at_call 69; refine (nan_any _).mono ?_; rintro e w' ⟨rfl, rfl⟩))
      go_ret
      exact ⟨_, rfl, by unfold dew hOk; rw [h1, h2]; exact can_qnan, by omega, HB.out⟩
    · cases h3 : (FloatKind.f64.format.order h 4636737291354636288 == some .lt || FloatKind.f64.format.order h 4636737291354636288 == some .eq)
      · go_enter Try.func58, Try.ntmps58
        go_wp2_with (first
          | (go_at_call 31; refine (implVapour_any _ _).mono ?_; rintro e w' ⟨rs, rfl, hs, ls, hb⟩; replace HB := Lib.hid (Fv.step HB.out hb); have q1 := (kn_of hs).trans h1; have hs' := Lib.hid hs; clear hs hb)
          | (go_at_call 21; refine (implKnown_any _ ls _).mono ?_; rintro e w' ⟨rfl, rfl⟩)
          | (go_at_call 69; refine (nan_any _).mono ?_; rintro e w' ⟨rfl, rfl⟩))
        go_ret
        exact ⟨_, rfl, by unfold dew hOk; rw [h1, h2, h3]; exact can_qnan, by omega, HB.out⟩
      · go_enter Try.func58, Try.ntmps58
        go_wp2_with (first
          | (go_at_call 31; refine (implVapour_any _ _).mono ?_; rintro e w' ⟨rs, rfl, hs, ls, hb⟩; replace HB := Lib.hid (Fv.step HB.out hb); have q1 := (kn_of hs).trans h1; have hs' := Lib.hid hs; clear hs hb)
          | (go_at_call 21; refine (implKnown_any _ ls _).mono ?_; rintro e w' ⟨rfl, rfl⟩)
          | (refine wpList_fop rfl rfl (by decide) rfl rfl ?_; intro r n hr hl; have hr' := Lib.hid hr; clear hr))
        go_loopw [6, 7, 8] (fun v6 v7 v8 wr => ∃ (k l g : Nat), k ≤ 60 ∧ v8 = .int .i64 k ∧ v6 = .float .f64 l ∧ v7 = .float .f64 g ∧ Hid (can l = (ds (fop .mul (can h) (vap t)) (can t) k).1) ∧ Hid (can g = (ds (fop .mul (can h) (vap t)) (can t) k).2) ∧ Hid (g < 18446744073709551616) ∧ Hid (Below w.heap.size w wr)) (fun _ _ i _ => 60 - (intOf i).toNat)
        case atStart => exact ⟨0, _, _, by omega, rfl, rfl, rfl, can_m50, Lib.hid rfl, Lib.hid ht, HB⟩
        case round =>
          clear HB
          obtain ⟨k, l, g, hk, rfl, rfl, rfl, hL, hG, hg, HB⟩ := hrel
          by_cases hk6 : k = 60
          · subst hk6
            go_wp2
            go_ret
            exact ⟨_, rfl, by rw [hG.out]; unfold dew hOk; rw [h1, h2, h3]; rfl, hg.out, HB.out⟩
          · have hk5 : k < 60 := by omega
            have hc : decide ((k : Int) < 60) = true := decide_eq_true (by omega)
            go_wp2_with (first
              | (go_at_call 31; refine (implVapour_any _ _).mono ?_; rintro e w' ⟨rv, rfl, hv, lv, hb⟩; replace HB := Lib.hid (Fv.step (draws HB.out _) hb); have hv' := Lib.hid hv; clear hv hb)
              | (refine wpList_fop rfl rfl (by decide) rfl rfl ?_; intro r n hr hl; have hr' := Lib.hid hr; clear hr))
            · rename_i r1 n1 l1 hr1 m n2 l2 hm rq n3 l3 hrq hcd
              have e := ds_step (k := k) hL.out hG.out hr1.out hm.out hv'.out hrq.out (hr'.out.trans (by rw [hs'.out])) hcd
              exact ⟨⟨k + 1, m, g, by omega, rfl, rfl, rfl, Lib.hid (by rw [e]; rfl), Lib.hid (by rw [e]; rfl), hg, Lib.hid (draws HB.out _)⟩, dec60 hk5⟩
            · rename_i r1 n1 l1 hr1 m n2 l2 hm rq n3 l3 hrq hcd
              have e := ds_step (k := k) hL.out hG.out hr1.out hm.out hv'.out hrq.out (hr'.out.trans (by rw [hs'.out])) hcd
              exact ⟨⟨k + 1, l, m, by omega, rfl, rfl, rfl, Lib.hid (by rw [e]; rfl), Lib.hid (by rw [e]; rfl), Lib.hid l2, Lib.hid (draws HB.out _)⟩, dec60 hk5⟩

set_option maxHeartbeats 1000000 in
theorem lawDew (t h : Nat) (ht : t < 18446744073709551616) (w : World) : Calls Try.prog 16 #[.float .f64 t, .float .f64 h] w fun e w' => e = .returned (.bool true) ∧ Below w.heap.size w w' := by
  have HB := Lib.hid (Below.refl w.heap.size w)
  go_enter Try.func16, Try.ntmps16
  go_wp2_with (first
    | (go_at_call 57; refine (specDew_any _ _ ht _).mono ?_; rintro e w' ⟨rs, rfl, hs, ls, hb⟩; replace HB := Lib.hid (Fv.step HB.out hb); have hs' := Lib.hid hs; clear hs hb)
    | (go_at_call 58; refine (implDew_any _ _ ht _).mono ?_; rintro e w' ⟨ri, rfl, hi, li, hb⟩; replace HB := Lib.hid (Fv.step HB.out hb); have q1 := sfB_of (hi.trans hs'.out.symm); clear hi hb)
    | (go_at_call 32; refine (sameFloat_any _ _ _).mono ?_; rintro e w' ⟨rfl, n, rfl⟩))
  go_ret
  exact ⟨rfl, draws HB.out _⟩
end Go.Proofs.Ytbgacfjocjcffaa.Fd
