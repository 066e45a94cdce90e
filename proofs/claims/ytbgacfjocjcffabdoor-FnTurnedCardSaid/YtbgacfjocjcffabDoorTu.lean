/-
  The law FnTurned out of the contracts of Turn, AddPair, MulPair, Same and the reader of bytes.
  Conditions: the table of sines stands as laid; each element of the list is a byte.
-/
import Derived.Test.YtbgacfjocjcffabDoorTd
import Derived.Test.YtbgacfjocjcffabDoorDu
import Derived.Test.YtbgacfjocjcffabDoorFn
import Derived.Deep.RegionHeld3
import Derived.Deep.DeepCutAuto
namespace Go.Proofs.YtbgacfjocjcffabDoor.Tu
open Go Go.RowKit Go.Proofs.YtbgacfjocjcffabDoor.Fk Go.Proofs.YtbgacfjocjcffabDoor.Fc Go.Proofs.YtbgacfjocjcffabDoor.Fp Go.Proofs.YtbgacfjocjcffabDoor.Fm Go.Proofs.YtbgacfjocjcffabDoor.Fn Go.Proofs.YtbgacfjocjcffabDoor.Dk Go.Proofs.YtbgacfjocjcffabDoor.Dt Go.Proofs.YtbgacfjocjcffabDoor.Du Go.Proofs.YtbgacfjocjcffabDoor.PFnTurned Go.Proofs.YtbgacfjocjcffabDoorW.PrintWords
attribute [local go_sem] run_store_float drewN_setCell drewN_alloc
set_option linter.unusedVariables false

/-- Some number, and the same as z (so -0 and 0). -/
def isz (o : Option Nat) (z : Nat) : Bool := match o with | some r => (FloatKind.f64.format.order r z == some .eq) && decide (r < 18446744073709551616) | none => false
def chk (m : Int) : Bool :=
  isz (addR (sv ((m + 9) % 36)) (sv m) (sv ((m + 27) % 36)) (sv ((m + 18) % 36))) 0 && isz (addS (sv ((m + 9) % 36)) (sv m) (sv ((m + 27) % 36)) (sv ((m + 18) % 36))) 0 &&
  (isz (mulR (sv 18) (sv 9) (sv ((m + 9) % 36)) (sv m)) (sv ((m + 18) % 36)) && isz (mulS (sv 18) (sv 9) (sv ((m + 9) % 36)) (sv m)) (sv ((m + 9) % 36)))
theorem chk_all (m : Int) (h0 : 0 ≤ m) (h1 : m < 36) : chk m = true := by
  have h : ∀ i : Fin 36, chk ((i.val : Nat) : Int) = true := by decide +kernel
  have := h ⟨m.toNat, by omega⟩
  rwa [show ((m.toNat : Nat) : Int) = m from by omega] at this
theorem isz_of {o : Option Nat} {z r : Nat} (h : isz o z = true) (hr : can r = o) : (FloatKind.f64.format.order r z == some .eq) = true := by
  cases o with
  | none => cases h
  | some x =>
    unfold isz at h
    simp only [Bool.and_eq_true] at h
    obtain ⟨rfl, _⟩ := can_some hr
    exact h.1
set_option maxHeartbeats 1000000 in
theorem equal_true (a b c d : Nat) (h1 : (FloatKind.f64.format.order a c == some .eq) = true) (h2 : (FloatKind.f64.format.order b d == some .eq) = true) (w : World) :
    Calls Tryd.prog 27 #[pr a b, pr c d] w fun e w' => e = .returned (.bool true) ∧ Below w.heap.size w w' := by
  go_enter Tryd.func27, Tryd.ntmps27
  go_wp2
  go_ret
  exact ⟨by first | rfl | simp [h1, h2], Joins.below_alloc2 w _ _⟩
theorem sb_self (a : Nat) : sb a a = true := by unfold sb; simp

theorem same_self (a : Nat) (ha : a < 18446744073709551616) (w : World) : Calls Tryd.prog 26 #[.float .f64 a, .float .f64 a] w fun e w' => e = .returned (.bool true) ∧ Below w.heap.size w w' :=
  (specSame_any a a ha ha w).mono fun e w' ⟨he, n, hw⟩ => ⟨by rw [he, sb_self], by rw [hw]; exact draws (Below.refl _ _) n⟩
theorem run_re (a b : Nat) (w : World) : Sem.run Tryd.prog (Instr.field 28 (.agg #[.float .f64 a, .float .f64 b]) 0) w = .ok (.float .f64 a) w := by kernel_rfl
theorem run_im (a b : Nat) (w : World) : Sem.run Tryd.prog (Instr.field 28 (.agg #[.float .f64 a, .float .f64 b]) 1) w = .ok (.float .f64 b) w := by kernel_rfl
attribute [local go_sem] run_re run_im
theorem K4 {w v : World} {g4 a b : Nat} (h4 : v.heap[g4]? = some (cells2 a b 28)) (hb : Below w.heap.size w v) :
    v.heap[g4]? = some (cells2 a b 28) ∧ Below w.heap.size w v ∧ v.cell? ⟨g4, 0, none⟩ = some (.float .f64 a) ∧ v.cell? ⟨g4, 1, none⟩ = some (.float .f64 b) := ⟨h4, hb, row_cell h4 0, row_cell h4 1⟩
theorem KS {w v : World} {g4 g5 a b : Nat} (h4 : v.heap[g4]? = some (cells2 a b 28)) (h5 : v.heap[g5]? = some (cells2 a b 28)) (hb : Below w.heap.size w v) :
    v.heap[g4]? = some (cells2 a b 28) ∧ v.heap[g5]? = some (cells2 a b 28) ∧ Below w.heap.size w v ∧ v.cell? ⟨g4, 0, none⟩ = some (.float .f64 a) ∧ v.cell? ⟨g4, 1, none⟩ = some (.float .f64 b) ∧ v.cell? ⟨g5, 0, none⟩ = some (.float .f64 a) ∧ v.cell? ⟨g5, 1, none⟩ = some (.float .f64 b) :=
  ⟨h4, h5, hb, row_cell h4 0, row_cell h4 1, row_cell h5 0, row_cell h5 1⟩
theorem tr_eq {k p : Int} (h : k % 36 = p) : tr k = pr (sv ((p + 9) % 36)) (sv p) := by unfold tr; rw [h]
set_option maxHeartbeats 4000000 in
set_option maxRecDepth 100000 in
theorem law (A0 : Option Addr) (c0 : Nat) (l0 : List Int) (w : World) (hr0 : Kd.C (Kd.int .u8) w A0 l0.length l0) (hc0 : l0.length ≤ c0) (hb : Td.bytes l0) (hl : l0.length ≤ 1000000000000000000) (hS : Sines w) :
    Calls Tryd.prog 8 #[.slice A0 l0.length c0] w fun e w' => e = .returned (.bool true) ∧ Below w.heap.size w w' := by
  obtain ⟨r, hr⟩ := Td.draw_some hb hl
  clear hb
  obtain ⟨bg, hbg⟩ : ∃ b, laws_big.f l0 = some b := ⟨_, rfl⟩
  have BG := Lib.hid (laws_big.calls A0 c0 l0 bg w hr0 hc0 hbg)
  have DR := Lib.hid (fun n : Nat => spec_DrawTurn.calls 20 A0 c0 l0 r (w.drewN n) (Kd.C_drewN hr0 n) hc0 hr)
  have HS := Lib.hid hS
  clear hr0 hc0 hl hS hr hbg
  cases bg with
  | true =>
    go_enter Tryd.func8, Tryd.ntmps8
    go_wp2_with (go_at_call 24; (with_reducible refine BG.out.mono ?_); rintro e w' ⟨rfl, ⟨nd, rfl⟩⟩)
    go_ret
    exact ⟨rfl, draws (Below.refl _ _) _⟩
  | false =>
    obtain ⟨k, hk⟩ : ∃ k, Int.tmod r 36 = k := ⟨_, rfl⟩
    have k0 : -36 < k := by have h := tmod36 r; rw [hk] at h; split at h <;> omega
    have k1 : k < 36 := by have h := tmod36 r; rw [hk] at h; split at h <;> omega
    obtain ⟨m, hm⟩ : ∃ m, k % 36 = m := ⟨_, rfl⟩
    have m0 : 0 ≤ m := by omega
    have m1 : m < 36 := by omega
    have hc := chk_all m m0 m1
    have t0 := tr_eq hm
    have t36 := tr_eq (show (k + 36) % 36 = m by omega)
    have t18 := tr_eq (show (k + 18) % 36 = (m + 18) % 36 by omega)
    have t9 := tr_eq (show (9 : Int) % 36 = 9 by omega)
    have t9k := tr_eq (show (k + 9) % 36 = (m + 9) % 36 by omega)
    rw [show ((m + 18) % 36 + 9) % 36 = (m + 27) % 36 by omega] at t18
    rw [show ((m + 9) % 36 + 9) % 36 = (m + 18) % 36 by omega] at t9k
    rw [show ((9 : Int) + 9) % 36 = 18 by omega] at t9
    unfold chk at hc
    have la := (sn_sv (j := (m + 9) % 36) (by omega) (by omega)).2.2
    have lb := (sn_sv m0 m1).2.2
    generalize sv ((m + 9) % 36) = a at *
    generalize sv m = b at *
    generalize sv ((m + 27) % 36) = c at *
    generalize sv ((m + 18) % 36) = d at *
    generalize sv 18 = x at *
    generalize sv 9 = y at *
    simp only [Bool.and_eq_true] at hc
    obtain ⟨⟨f1, f2⟩, f3, f4⟩ := hc
    have D0 := Lib.hid (fun w h => t0 ▸ implTurn_any k w h)
    have D36 := Lib.hid (fun w h => t36 ▸ implTurn_any (k + 36) w h)
    have D18 := Lib.hid (fun w h => t18 ▸ implTurn_any (k + 18) w h)
    have D9 := Lib.hid (fun w h => t9 ▸ implTurn_any 9 w h)
    have D9k := Lib.hid (fun w h => t9k ▸ implTurn_any (k + 9) w h)
    have E0 := Lib.hid (fun w => t0 ▸ specTurn_any k w)
    have LA := Lib.hid la
    have LB := Lib.hid lb
    have F1 := Lib.hid f1
    have F2 := Lib.hid f2
    have F3 := Lib.hid f3
    have F4 := Lib.hid f4
    have HB := Lib.hid (Below.refl w.heap.size w)
    clear la lb t0 t36 t18 t9 t9k f1 f2 f3 f4 hm m0 m1
    go_enter Tryd.func8, Tryd.ntmps8
    go_upto_region 4 with (first
      | (go_at_call 24; (with_reducible refine BG.out.mono ?_); rintro e w' ⟨rfl, ⟨nd, rfl⟩⟩)
      | (go_at_call 25; (with_reducible refine (DR.out _).mono ?_); rintro e w2 ⟨rfl, hb⟩; replace HB := Lib.hid (Fp.step (draws HB.out nd) hb); clear hb))
    go_upto_region 5 with (go_at_call 16; refine (D0.out _ (HS.out.below HB.out)).mono ?_; rintro e w3 ⟨rfl, hb⟩; replace HB := Lib.hid (Fp.step HB.out hb); clear hb)
    go_upto_region 6 with (go_at_call 16; refine (D36.out _ (HS.out.below (balloc HB.out _))).mono ?_; rintro e w4 ⟨rfl, hb⟩; have H4 := Lib.hid (keep_row (heap_alloc_new w3 (cells2 a b 28)) hb); replace HB := Lib.hid (Fp.step (balloc HB.out _) hb); clear hb)
    have G4 := row_alloc (o' := cells2 a b 28) H4.out
    have G5 := heap_alloc_new w4 (cells2 a b 28)
    have GB := balloc HB.out (cells2 a b 28)
    clear H4 HB
    generalize w4.alloc (Obj.cells #[Value.float FloatKind.f64 a, Value.float FloatKind.f64 b] 28) = W5 at *
    generalize w4.heap.size = g5 at *
    generalize w3.heap.size = g4 at *
    go_cut [38] (fun v wc => v = .bool false ∧ Hid (wc.heap[g4]? = some (cells2 a b 28)) ∧ Hid (Below w.heap.size w wc))
    case first =>
      obtain ⟨o1, o2, o3, h2, h3, h4, h5⟩ := KS G4 G5 GB
      go_region_held3 (fun v => v.heap[g4]? = some (cells2 a b 28) ∧ v.heap[g5]? = some (cells2 a b 28) ∧ Below w.heap.size w v ∧ v.cell? ⟨g4, 0, none⟩ = some (.float .f64 a) ∧ v.cell? ⟨g4, 1, none⟩ = some (.float .f64 b) ∧ v.cell? ⟨g5, 0, none⟩ = some (.float .f64 a) ∧ v.cell? ⟨g5, 1, none⟩ = some (.float .f64 b)) (first | exact KS (by assumption) (by assumption) (by assumption) | exact KS (by assumption) (by assumption) (Below.drew (by assumption)) | exact KS (by assumption) (by assumption) (draws (by assumption) _) | go_keep) (first | (go_at_call 15; refine (E0.out _).mono ?_; rintro e w' ⟨rfl, hb⟩; have k0 := Fp.keep_row (g := g4) (o := cells2 a b 28) (by assumption) hb; have k1 := Fp.keep_row (g := g5) (o := cells2 a b 28) (by assumption) hb; have kb : Below w.heap.size w w' := Fp.step (by first | assumption | exact Below.drew (by assumption)) hb; clear hb) | (go_at_call 26; refine (same_self _ ?hs _).mono ?_; (case hs => first | exact LA.out | exact LB.out); rintro e w' ⟨rfl, hb⟩; have k0 := Fp.keep_row (g := g4) (o := cells2 a b 28) (by assumption) hb; have k1 := Fp.keep_row (g := g5) (o := cells2 a b 28) (by assumption) hb; have kb : Below w.heap.size w w' := Fp.step (by first | assumption | exact Below.drew (by assumption)) hb; clear hb))
      all_goals go_wp2
      all_goals go_meet
      case rel => exact ⟨rfl, Lib.hid (by assumption), Lib.hid (by first | assumption | exact Below.drew (by assumption))⟩
    case rest =>
      clear G4 G5 GB
      obtain ⟨rfl, G4, GB⟩ := hcut
      have e18 : IntKind.i64.wrap (k + 18) = k + 18 := IntWalk.i64_in _ (by omega)
      have e9 : IntKind.i64.wrap (k + 9) = k + 9 := IntWalk.i64_in _ (by omega)
      go_upto_region 8 with (fail)
      obtain ⟨o1, o3, h2, h3⟩ := K4 G4.out GB.out
      clear G4 GB
      go_region_held3 (fun v => v.heap[g4]? = some (cells2 a b 28) ∧ Below w.heap.size w v ∧ v.cell? ⟨g4, 0, none⟩ = some (.float .f64 a) ∧ v.cell? ⟨g4, 1, none⟩ = some (.float .f64 b)) (first | exact K4 (by assumption) (by assumption) | exact K4 (by assumption) (Below.drew (by assumption)) | exact K4 (by assumption) (draws (by assumption) _) | go_keep) (first | (go_at_call 16; first | ((with_reducible refine (D18.out _ ?hs).mono ?_); (case hs => exact HS.out.below (by first | assumption | exact Below.drew (by assumption))); rintro e w' ⟨rfl, hb⟩; have k0 := Fp.keep_row (g := g4) (o := cells2 a b 28) (by assumption) hb; have kb : Below w.heap.size w w' := Fp.step (by first | assumption | exact Below.drew (by assumption)) hb; clear hb) | ((with_reducible refine (D9.out _ ?hs).mono ?_); (case hs => exact HS.out.below (by first | assumption | exact Below.drew (by assumption))); rintro e w' ⟨rfl, hb⟩; have k0 := Fp.keep_row (g := g4) (o := cells2 a b 28) (by assumption) hb; have kb : Below w.heap.size w w' := Fp.step (by first | assumption | exact Below.drew (by assumption)) hb; clear hb) | ((with_reducible refine (D9k.out _ ?hs).mono ?_); (case hs => exact HS.out.below (by first | assumption | exact Below.drew (by assumption))); rintro e w' ⟨rfl, hb⟩; have k0 := Fp.keep_row (g := g4) (o := cells2 a b 28) (by assumption) hb; have kb : Below w.heap.size w w' := Fp.step (by first | assumption | exact Below.drew (by assumption)) hb; clear hb)) | (go_at_call 28; (with_reducible refine (implAdd_any a b c d _).mono ?_); rintro e w' ⟨r1, s1, rfl, hx, hy, hb⟩; have hx1 := Lib.hid hx; have hy1 := Lib.hid hy; clear hx hy; have k0 := Fp.keep_row (g := g4) (o := cells2 a b 28) (by assumption) hb; have kb : Below w.heap.size w w' := Fp.step (by first | assumption | exact Below.drew (by assumption)) hb; clear hb) | (go_at_call 29; (with_reducible refine (implMul_any x y a b _).mono ?_); rintro e w' ⟨r2, s2, rfl, hx, hy, hb⟩; have hx2 := Lib.hid hx; have hy2 := Lib.hid hy; clear hx hy; have k0 := Fp.keep_row (g := g4) (o := cells2 a b 28) (by assumption) hb; have kb : Below w.heap.size w w' := Fp.step (by first | assumption | exact Below.drew (by assumption)) hb; clear hb) | (go_at_call 27; first | ((with_reducible refine (equal_true _ _ 0 0 ?e1 ?e2 _).mono ?_); (case e1 => exact isz_of F1.out (Hid.out (by assumption))); (case e2 => exact isz_of F2.out (Hid.out (by assumption))); rintro e w' ⟨rfl, hb⟩; have k0 := Fp.keep_row (g := g4) (o := cells2 a b 28) (by assumption) hb; have kb : Below w.heap.size w w' := Fp.step (by first | assumption | exact Below.drew (by assumption)) hb; clear hb) | ((with_reducible refine (equal_true _ _ d a ?e1 ?e2 _).mono ?_); (case e1 => exact isz_of F3.out (Hid.out (by assumption))); (case e2 => exact isz_of F4.out (Hid.out (by assumption))); rintro e w' ⟨rfl, hb⟩; have k0 := Fp.keep_row (g := g4) (o := cells2 a b 28) (by assumption) hb; have kb : Below w.heap.size w w' := Fp.step (by first | assumption | exact Below.drew (by assumption)) hb; clear hb)))
      all_goals go_wp2
      all_goals go_ret
      all_goals exact ⟨rfl, by first | assumption | exact Below.drew (by assumption)⟩
theorem law2 (A0 : Option Addr) (c0 : Nat) (l0 : List Int) (w : World) (hr0 : Kd.C (Kd.int .u8) w A0 l0.length l0) (hc0 : l0.length ≤ c0) (hb : Td.bytes l0) (hS : Sines w) :
    Calls Tryd.prog 8 #[.slice A0 l0.length c0] w fun e w' => e = .returned (.bool true) ∧ Below w.heap.size w w' := by
  by_cases h : (l0.length : Int) > 1048576
  · have hbg : laws_big.f l0 = some true := by unfold laws_big.f; rw [decide_eq_true h]
    have BG := Lib.hid (laws_big.calls A0 c0 l0 true w hr0 hc0 hbg)
    clear hr0 hc0 hb hS h hbg
    go_enter Tryd.func8, Tryd.ntmps8
    go_wp2_with (go_at_call 24; (with_reducible refine BG.out.mono ?_); rintro e w' ⟨rfl, ⟨nd, rfl⟩⟩)
    go_ret
    exact ⟨rfl, draws (Below.refl _ _) _⟩
  · exact law A0 c0 l0 w hr0 hc0 hb (by omega) hS
theorem bytes_of {l0 : List Int} (hw : ∀ n ∈ l0, (Lit.int .u8 n).wf = true) : Td.bytes l0 := fun x hx => by
  have q := hw x hx
  simp [Lit.wf] at q
  have e1 : IntKind.u8.min = 0 := by decide
  have e2 : IntKind.u8.max = 255 := by decide
  omega
theorem law3 (A0 : Option Addr) (c0 : Nat) (l0 : List Int) (w : World) (hr0 : ReadsInt w .u8 A0 l0.length l0) (hc0 : l0.length ≤ c0) (hw : ∀ n ∈ l0, (Lit.int .u8 n).wf = true) (hS : Sines w) :
    Calls Tryd.prog 8 #[.slice A0 l0.length c0] w fun e w' => e = .returned (.bool true) ∧ Below w.heap.size w w' :=
  law2 A0 c0 l0 w (Kd.C_of_reads (d := (0 : Int)) (h1 := fun _ => rfl) hr0) hc0 (bytes_of hw) hS
end Go.Proofs.YtbgacfjocjcffabDoor.Tu
