/-
  Contracts of Humidity (both sides); the law of Humidity.
  Conditions: none.
-/
import Derived.Test.YtbgacfjocjcffaaFb
namespace Go.Proofs.Ytbgacfjocjcffaa.Fh
open Go Go.RowKit Go.Proofs.Ytbgacfjocjcffaa.Fk Go.Proofs.Ytbgacfjocjcffaa.Qs Go.Proofs.Ytbgacfjocjcffaa.Fw Go.Proofs.Ytbgacfjocjcffaa.Fc Go.Proofs.Ytbgacfjocjcffaa.Fv Go.Proofs.Ytbgacfjocjcffaa.Fd Go.Proofs.Ytbgacfjocjcffaa.Fb
attribute [local go_sem] run_store_float drewN_setCell drewN_alloc

def hum (t d : Nat) : Option Nat := if (vap t).isSome && (vap d).isSome && !(FloatKind.f64.format.order d t == some .gt) then fop .quo (fop .mul (vap d) (some 4636737291354636288)) (vap t) else none
theorem nan_vap {x a : Nat} {b : Bool} (h : can x = vap a) (hb : (vap a).isSome = b) : nan x = !b := by
  rw [← hb, ← h]
  cases hn : nan x with
  | true => rw [can_nan hn]; rfl
  | false => rw [can_real hn]; rfl
theorem kn_vap {x a : Nat} {b : Bool} (h : can x = vap a) (hb : (vap a).isSome = b) : kn x = b := by rw [kn_of h, vap_kn, hb]
theorem hum_a {t d : Nat} (h : (vap t).isSome = false) : hum t d = none := by unfold hum; rw [h]; rfl
theorem hum_b {t d : Nat} (h : (vap d).isSome = false) : hum t d = none := by unfold hum; rw [h, Bool.and_false]; rfl
theorem hum_c {t d : Nat} (h : (FloatKind.f64.format.order d t == some .gt) = true) : hum t d = none := by unfold hum; rw [h, Bool.not_true, Bool.and_false]; rfl
theorem hum_d {t d : Nat} (h1 : (vap t).isSome = true) (h2 : (vap d).isSome = true) (h3 : (FloatKind.f64.format.order d t == some .gt) = false) : hum t d = fop .quo (fop .mul (vap d) (some 4636737291354636288)) (vap t) := by unfold hum; rw [h1, h2, h3]; rfl
attribute [local irreducible] vap

set_option maxHeartbeats 2000000 in
theorem specHum_any (t d : Nat) (w : World) : Calls Try.prog 36 #[.float .f64 t, .float .f64 d] w fun e w' => ∃ r, e = .returned (.float .f64 r) ∧ can r = hum t d ∧ r < 18446744073709551616 ∧ Below w.heap.size w w' := by
  have HB := Lib.hid (Below.refl w.heap.size w)
  cases h1 : (vap t).isSome
  · cases h2 : (vap d).isSome
    all_goals
      go_enter Try.func36, Try.ntmps36
      go_wp2_with (first | (go_at_call 30; refine (specVapour_any _ _).mono ?_; rintro e w' ⟨ra, rfl, hs, la, hb⟩; replace HB := Lib.hid (Fv.step (by first | exact HB.out | exact draws HB.out _) hb); first | (have q1 := kn_vap (a := t) hs h1; have ha := Lib.hid hs) | (have q2 := kn_vap (a := d) hs h2; have hb' := Lib.hid hs); clear hs hb) | (go_at_call 20; refine (specKnown_any _ _).mono ?_; rintro e w' ⟨rfl, n, rfl⟩) | (go_at_call 68; refine (l1None_any _).mono ?_; rintro e w' ⟨r, n, rfl, rfl, hr, hl⟩; have hr' := Lib.hid hr; clear hr) | (refine wpList_fop rfl rfl (by decide) rfl rfl ?_; intro r n hr hl; have hr' := Lib.hid hr; clear hr))
      go_ret
      exact ⟨_, rfl, by rw [hum_a h1]; exact hr'.out, hl, draws HB.out _⟩
  · cases h2 : (vap d).isSome
    · go_enter Try.func36, Try.ntmps36
      go_wp2_with (first | (go_at_call 30; refine (specVapour_any _ _).mono ?_; rintro e w' ⟨ra, rfl, hs, la, hb⟩; replace HB := Lib.hid (Fv.step (by first | exact HB.out | exact draws HB.out _) hb); first | (have q1 := kn_vap (a := t) hs h1; have ha := Lib.hid hs) | (have q2 := kn_vap (a := d) hs h2; have hb' := Lib.hid hs); clear hs hb) | (go_at_call 20; refine (specKnown_any _ _).mono ?_; rintro e w' ⟨rfl, n, rfl⟩) | (go_at_call 68; refine (l1None_any _).mono ?_; rintro e w' ⟨r, n, rfl, rfl, hr, hl⟩; have hr' := Lib.hid hr; clear hr) | (refine wpList_fop rfl rfl (by decide) rfl rfl ?_; intro r n hr hl; have hr' := Lib.hid hr; clear hr))
      go_ret
      exact ⟨_, rfl, by rw [hum_b h2]; exact hr'.out, hl, draws HB.out _⟩
    · cases h3 : (FloatKind.f64.format.order d t == some .gt)
      · go_enter Try.func36, Try.ntmps36
        go_wp2_with (first | (go_at_call 30; refine (specVapour_any _ _).mono ?_; rintro e w' ⟨ra, rfl, hs, la, hb⟩; replace HB := Lib.hid (Fv.step (by first | exact HB.out | exact draws HB.out _) hb); first | (have q1 := kn_vap (a := t) hs h1; have ha := Lib.hid hs) | (have q2 := kn_vap (a := d) hs h2; have hb' := Lib.hid hs); clear hs hb) | (go_at_call 20; refine (specKnown_any _ _).mono ?_; rintro e w' ⟨rfl, n, rfl⟩) | (go_at_call 68; refine (l1None_any _).mono ?_; rintro e w' ⟨r, n, rfl, rfl, hr, hl⟩; have hr' := Lib.hid hr; clear hr) | (refine wpList_fop rfl rfl (by decide) rfl rfl ?_; intro r n hr hl; have hr' := Lib.hid hr; clear hr))
        rename_i rm n0 lm hm
        go_ret
        exact ⟨_, rfl, by rw [hum_d h1 h2 h3, hr'.out, hm.out, hb'.out, ha.out, can_hundred], by assumption, draws HB.out _⟩
      · go_enter Try.func36, Try.ntmps36
        go_wp2_with (first | (go_at_call 30; refine (specVapour_any _ _).mono ?_; rintro e w' ⟨ra, rfl, hs, la, hb⟩; replace HB := Lib.hid (Fv.step (by first | exact HB.out | exact draws HB.out _) hb); first | (have q1 := kn_vap (a := t) hs h1; have ha := Lib.hid hs) | (have q2 := kn_vap (a := d) hs h2; have hb' := Lib.hid hs); clear hs hb) | (go_at_call 20; refine (specKnown_any _ _).mono ?_; rintro e w' ⟨rfl, n, rfl⟩) | (go_at_call 68; refine (l1None_any _).mono ?_; rintro e w' ⟨r, n, rfl, rfl, hr, hl⟩; have hr' := Lib.hid hr; clear hr) | (refine wpList_fop rfl rfl (by decide) rfl rfl ?_; intro r n hr hl; have hr' := Lib.hid hr; clear hr))
        go_ret
        exact ⟨_, rfl, by rw [hum_c h3]; exact hr'.out, hl, draws HB.out _⟩

set_option maxHeartbeats 2000000 in
theorem implHum_any (t d : Nat) (w : World) : Calls Try.prog 37 #[.float .f64 t, .float .f64 d] w fun e w' => ∃ r, e = .returned (.float .f64 r) ∧ can r = hum t d ∧ r < 18446744073709551616 ∧ Below w.heap.size w w' := by
  have HB := Lib.hid (Below.refl w.heap.size w)
  cases h1 : (vap t).isSome
  · cases h2 : (vap d).isSome
    all_goals
      go_enter Try.func37, Try.ntmps37
      go_wp2_with (first | (go_at_call 31; refine (implVapour_any _ _).mono ?_; rintro e w' ⟨ra, rfl, hs, la, hb⟩; replace HB := Lib.hid (Fv.step (by first | exact HB.out | exact draws HB.out _) hb); first | (have q1 := nan_vap (a := t) hs h1; have ha := Lib.hid hs) | (have q2 := nan_vap (a := d) hs h2; have hb' := Lib.hid hs); clear hs hb) | (go_at_call 65; refine (missing_any _ _).mono ?_; rintro e w' ⟨rfl, rfl⟩) | (go_at_call 69; refine (nan_any _).mono ?_; rintro e w' ⟨rfl, rfl⟩) | (refine wpList_fop rfl rfl (by decide) rfl rfl ?_; intro r n hr hl; have hr' := Lib.hid hr; clear hr))
      go_ret
      exact ⟨_, rfl, by rw [hum_a h1]; exact can_qnan, by omega, HB.out⟩
  · cases h2 : (vap d).isSome
    · go_enter Try.func37, Try.ntmps37
      go_wp2_with (first | (go_at_call 31; refine (implVapour_any _ _).mono ?_; rintro e w' ⟨ra, rfl, hs, la, hb⟩; replace HB := Lib.hid (Fv.step (by first | exact HB.out | exact draws HB.out _) hb); first | (have q1 := nan_vap (a := t) hs h1; have ha := Lib.hid hs) | (have q2 := nan_vap (a := d) hs h2; have hb' := Lib.hid hs); clear hs hb) | (go_at_call 65; refine (missing_any _ _).mono ?_; rintro e w' ⟨rfl, rfl⟩) | (go_at_call 69; refine (nan_any _).mono ?_; rintro e w' ⟨rfl, rfl⟩) | (refine wpList_fop rfl rfl (by decide) rfl rfl ?_; intro r n hr hl; have hr' := Lib.hid hr; clear hr))
      go_ret
      exact ⟨_, rfl, by rw [hum_b h2]; exact can_qnan, by omega, HB.out⟩
    · cases h3 : (FloatKind.f64.format.order d t == some .gt)
      · go_enter Try.func37, Try.ntmps37
        go_wp2_with (first | (go_at_call 31; refine (implVapour_any _ _).mono ?_; rintro e w' ⟨ra, rfl, hs, la, hb⟩; replace HB := Lib.hid (Fv.step (by first | exact HB.out | exact draws HB.out _) hb); first | (have q1 := nan_vap (a := t) hs h1; have ha := Lib.hid hs) | (have q2 := nan_vap (a := d) hs h2; have hb' := Lib.hid hs); clear hs hb) | (go_at_call 65; refine (missing_any _ _).mono ?_; rintro e w' ⟨rfl, rfl⟩) | (go_at_call 69; refine (nan_any _).mono ?_; rintro e w' ⟨rfl, rfl⟩) | (refine wpList_fop rfl rfl (by decide) rfl rfl ?_; intro r n hr hl; have hr' := Lib.hid hr; clear hr))
        rename_i rm n0 lm hm
        go_ret
        exact ⟨_, rfl, by rw [hum_d h1 h2 h3, hr'.out, hm.out, hb'.out, ha.out, can_hundred], by assumption, draws HB.out _⟩
      · go_enter Try.func37, Try.ntmps37
        go_wp2_with (first | (go_at_call 31; refine (implVapour_any _ _).mono ?_; rintro e w' ⟨ra, rfl, hs, la, hb⟩; replace HB := Lib.hid (Fv.step (by first | exact HB.out | exact draws HB.out _) hb); first | (have q1 := nan_vap (a := t) hs h1; have ha := Lib.hid hs) | (have q2 := nan_vap (a := d) hs h2; have hb' := Lib.hid hs); clear hs hb) | (go_at_call 65; refine (missing_any _ _).mono ?_; rintro e w' ⟨rfl, rfl⟩) | (go_at_call 69; refine (nan_any _).mono ?_; rintro e w' ⟨rfl, rfl⟩) | (refine wpList_fop rfl rfl (by decide) rfl rfl ?_; intro r n hr hl; have hr' := Lib.hid hr; clear hr))
        go_ret
        exact ⟨_, rfl, by rw [hum_c h3]; exact can_qnan, by omega, HB.out⟩

set_option maxHeartbeats 1000000 in
theorem lawHum (t d : Nat) (w : World) : Calls Try.prog 10 #[.float .f64 t, .float .f64 d] w fun e w' => e = .returned (.bool true) ∧ Below w.heap.size w w' := by
  have HB := Lib.hid (Below.refl w.heap.size w)
  go_enter Try.func10, Try.ntmps10
  go_wp2_with (first
    | (go_at_call 36; refine (specHum_any _ _ _).mono ?_; rintro e w' ⟨rs, rfl, hs, ls, hb⟩; replace HB := Lib.hid (Fv.step HB.out hb); have hs' := Lib.hid hs; clear hs hb)
    | (go_at_call 37; refine (implHum_any _ _ _).mono ?_; rintro e w' ⟨ri, rfl, hi, li, hb⟩; replace HB := Lib.hid (Fv.step HB.out hb); have q1 := sfB_of (hi.trans hs'.out.symm); clear hi hb)
    | (go_at_call 32; refine (sameFloat_any _ _ _).mono ?_; rintro e w' ⟨rfl, n, rfl⟩))
  go_ret
  exact ⟨rfl, draws HB.out _⟩
end Go.Proofs.Ytbgacfjocjcffaa.Fh
