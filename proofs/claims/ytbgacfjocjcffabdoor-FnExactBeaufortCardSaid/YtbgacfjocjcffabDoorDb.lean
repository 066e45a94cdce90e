/-
  Contracts of Beaufort (both sides) and the law of Beaufort, in a world whose table of forces stands as laid.
  Conditions: the table's cells.
-/
import Derived.Test.YtbgacfjocjcffabDoorDk
namespace Go.Proofs.YtbgacfjocjcffabDoor.Db
open Go Go.RowKit Go.Proofs.YtbgacfjocjcffabDoor.Dk

def lims : List Nat := [0, 4599075939470750515, 4609884578576439706, 4614838538166547251, 4617878467915022336, 4620693217682128896, 4622269477551708570, 4624014622407314637, 4625534587281552179, 4626547897197710541, 4627589354611539968, 4628715254518382592, 4629798933178718618]
def geB (s : Nat) (i : Nat) : Bool := FloatKind.f64.format.order s (lims.getD i 0) == some .gt || FloatKind.f64.format.order s (lims.getD i 0) == some .eq
/-- The greatest place under n whose limit the speed reaches. -/
def bf (s : Nat) : Nat → Int
  | 0 => -1
  | n + 1 => if geB s n then (n : Int) else bf s n

set_option maxHeartbeats 2000000 in
theorem spec_any (s : Nat) (w : World) : Calls Tryd.prog 9 #[.float .f64 s] w fun e w' => e = .returned (.int .i64 (bf s 13)) ∧ Below w.heap.size w w' := by
  go_enter Tryd.func9, Tryd.ntmps9
  go_wp2
  have hC := new_cell w lims 22
  have HB := Lib.hid ((Below.refl w.heap.size w).alloc (Nat.le_refl _) (.cells (lims.map fun z => Value.float .f64 z).toArray 22 (0, 0)))
  replace hC := Lib.hid hC
  change Code.wp _ _ _ _ (w.alloc (.cells (lims.map fun z => Value.float .f64 z).toArray 22 (0, 0)))
  obtain ⟨W1, hW⟩ : ∃ W1, w.alloc (.cells (lims.map fun z => Value.float .f64 z).toArray 22 (0, 0)) = W1 := ⟨_, rfl⟩
  rw [hW] at hC HB ⊢
  clear hW
  go_loopg [4, 5] 13 (fun kq v4 v5 w' => ∃ x : Int, v4 = .int .i64 (bf s x.toNat) ∧ v5 = .int .i64 x ∧ Hid (0 ≤ x ∧ x.toNat + kq = 13) ∧ w' = W1)
  case atStart => exact ⟨0, rfl, rfl, Lib.hid ⟨by omega, by decide⟩, rfl⟩
  case round =>
    obtain ⟨x, rfl, rfl, HX, rfl⟩ := hrel
    cases gk with
    | zero =>
      have c6b0 : decide (x < 13) = false := decide_eq_false (by have := HX.out; omega)
      go_wp2
      go_ret
      have hx : x.toNat = 13 := by have := HX.out; omega
      exact ⟨by show Ending.returned (.int .i64 (bf s x.toNat)) = _; rw [hx], HB.out⟩
    | succ k1 =>
      obtain ⟨p0, hx⟩ := HX.out
      have q0 : x < 13 := by omega
      have c6b0 : decide (x < 13) = true := decide_eq_true q0
      have h1 := hC.out x p0 q0
      have hw : wrap64 (x + 1) = x + 1 := wrapS (by omega) (by omega)
      have HW := Lib.hid hw
      have hn : bf s (x + 1).toNat = if geB s x.toNat then x else bf s x.toNat := by
        rw [show (x + 1).toNat = x.toNat + 1 from by omega, bf, show ((x.toNat : Nat) : Int) = x from by omega]
      have HN := Lib.hid hn
      have HG := Lib.hid (show geB s x.toNat = (FloatKind.f64.format.order s (lims.getD x.toNat 0) == some .gt || FloatKind.f64.format.order s (lims.getD x.toNat 0) == some .eq) from rfl)
      clear hw hn hx
      replace p0 := eq_true p0
      replace q0 := eq_true q0
      generalize hL : lims.getD x.toNat 0 = L at h1 HG
      clear hL
      cases d : (FloatKind.f64.format.order s L == some .gt || FloatKind.f64.format.order s L == some .eq)
      · have HD := Lib.hid d
        go_wp2
        go_roundg k1
        case measure => omega
        case rel => exact ⟨x + 1, by rw [HN.out, HG.out, HD.out]; rfl, by rw [HW.out], Lib.hid ⟨by have := HX.out; omega, by have := HX.out; omega⟩, rfl⟩
      · have HD := Lib.hid d
        go_wp2
        go_roundg k1
        case measure => omega
        case rel => exact ⟨x + 1, by rw [HN.out, HG.out, HD.out]; rfl, by rw [HW.out], Lib.hid ⟨by have := HX.out; omega, by have := HX.out; omega⟩, rfl⟩

set_option maxHeartbeats 2000000 in
theorem impl_any (s : Nat) (w : World) (hF : ∀ i : Int, 0 ≤ i → i < (lims.length : Int) → w.cell? ⟨0, i.toNat, none⟩ = some (.float .f64 (lims.getD i.toNat 0))) : Calls Tryd.prog 10 #[.float .f64 s] w fun e w' => e = .returned (.int .i64 (bf s 13)) ∧ w' = w := by
  replace hF := Lib.hid hF
  go_enter Tryd.func10, Tryd.ntmps10
  go_wp2
  go_loopg [3] 13 (fun kq v3 w' => ∃ x : Int, v3 = .int .i64 x ∧ Hid (-1 ≤ x ∧ x + 1 = (kq : Int) ∧ kq ≤ 13 ∧ bf s kq = bf s 13) ∧ w' = w)
  case atStart => exact ⟨12, rfl, Lib.hid ⟨by omega, by omega, by omega, rfl⟩, rfl⟩
  case round =>
    obtain ⟨x, rfl, HX, rfl⟩ := hrel
    cases gk with
    | zero =>
      have hx : x = -1 := by have := HX.out; omega
      subst hx
      go_wp2
      go_ret
      exact ⟨by rw [← HX.out.2.2.2]; rfl, rfl⟩
    | succ k1 =>
      obtain ⟨p0, hx, hk, hb⟩ := HX.out
      have q0 : x < 13 := by omega
      replace p0 : 0 ≤ x := by omega
      have c6b0 : decide (0 ≤ x) = true := decide_eq_true p0
      have h1 := hF.out x p0 q0
      have hw : wrap64 (x - 1) = x - 1 := wrapS (by omega) (by omega)
      have HW := Lib.hid hw
      have hn : bf s (k1 + 1) = if geB s x.toNat then x else bf s k1 := by
        rw [bf, show k1 = x.toNat from by omega, show ((x.toNat : Nat) : Int) = x from by omega]
      have HN := Lib.hid hn
      have HG := Lib.hid (show geB s x.toNat = (FloatKind.f64.format.order s (lims.getD x.toNat 0) == some .gt || FloatKind.f64.format.order s (lims.getD x.toNat 0) == some .eq) from rfl)
      clear hw hn hx hk hb
      replace p0 := eq_true p0
      replace q0 := eq_true q0
      generalize hL : lims.getD x.toNat 0 = L at h1 HG
      clear hL
      cases d : (FloatKind.f64.format.order s L == some .gt || FloatKind.f64.format.order s L == some .eq)
      · have HD := Lib.hid d
        go_wp2
        go_roundg k1
        case measure => omega
        case rel => exact ⟨x - 1, by rw [HW.out], Lib.hid ⟨by have := HX.out; omega, by have := HX.out; omega, by have := HX.out; omega, by rw [← HX.out.2.2.2, HN.out, HG.out, HD.out]; rfl⟩, rfl⟩
      · have HD := Lib.hid d
        go_wp2
        go_ret
        exact ⟨by show Ending.returned (.int .i64 x) = _; rw [← HX.out.2.2.2, HN.out, HG.out, HD.out]; rfl, rfl⟩

theorem law (s : Nat) (w : World) (hF : ∀ i : Int, 0 ≤ i → i < (lims.length : Int) → w.cell? ⟨0, i.toNat, none⟩ = some (.float .f64 (lims.getD i.toNat 0))) : Calls Tryd.prog 3 #[.float .f64 s] w fun e w' => e = .returned (.bool true) ∧ Below w.heap.size w w' := by
  replace hF := Lib.hid hF
  go_enter Tryd.func3, Tryd.ntmps3
  go_wp2_with (first | (go_at_call 9; refine (spec_any _ _).mono ?_; rintro e w' ⟨rfl, hb⟩; have HB := Lib.hid hb; clear hb) | (go_at_call 10; refine (impl_any _ _ (fun i h0 h1 => (HB.out.cell (World.block_lt_of_cell? w _ (hF.out i h0 h1))).trans (hF.out i h0 h1))).mono ?_; rintro e w' ⟨rfl, rfl⟩))
  go_ret
  exact ⟨rfl, HB.out⟩
end Go.Proofs.YtbgacfjocjcffabDoor.Db
