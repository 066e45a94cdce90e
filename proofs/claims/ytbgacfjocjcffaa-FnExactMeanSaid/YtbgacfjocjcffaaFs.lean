/-
  Contracts of Sum and Mean (both sides), of toFloat64S and eqFloat64S as they are read; the laws of Sum and Mean.
  Conditions: the row's length is at most 2^20 where it is copied.
-/
import Derived.Test.YtbgacfjocjcffaaFl
import Derived.Test.YtbgacfjocjcffaaFv
namespace Go.Proofs.Ytbgacfjocjcffaa.Fs
open Go Go.RowKit Go.Proofs.Ytbgacfjocjcffaa.Fk Go.Proofs.Ytbgacfjocjcffaa.Qs Go.Proofs.Ytbgacfjocjcffaa.Fw Go.Proofs.Ytbgacfjocjcffaa.Fc Go.Proofs.Ytbgacfjocjcffaa.Fv Go.Proofs.Ytbgacfjocjcffaa.Fl
open Go.Proofs.YtbgacfjocjcffaaW.PrintWords Go.Proofs.YtbgacfjocjcffaaW.PrintLast Go.Proofs.YtbgacfjocjcffaaW.PrintMore
set_option linter.unusedVariables false
set_option linter.unusedSimpArgs false

def stp (s : Option Nat × Int) (x : Nat) : Option Nat × Int := if kn x then (fop .add s.1 (can x), s.2 + 1) else s
def sums (l : List Nat) : Option Nat × Int := l.foldl stp (some 0, 0)
theorem sums_next (l : List Nat) (i : Nat) (h : i < l.length) : sums (l.take (i + 1)) = stp (sums (l.take i)) (l.getD i 0) := by
  unfold sums
  rw [List.take_add_one, List.getElem?_eq_getElem h, List.foldl_append, List.getD_eq_getElem?_getD, List.getElem?_eq_getElem h]
  rfl
theorem fold_bound (l : List Nat) : ∀ s : Option Nat × Int, s.2 ≤ (l.foldl stp s).2 ∧ (l.foldl stp s).2 ≤ s.2 + l.length := by
  induction l with
  | nil => intro s; simp
  | cons x t ih =>
    intro s
    have h := ih (stp s x)
    have h2 : s.2 ≤ (stp s x).2 ∧ (stp s x).2 ≤ s.2 + 1 := by unfold stp; split <;> simp <;> omega
    simp only [List.foldl_cons, List.length_cons]
    omega
theorem sums_bound (l : List Nat) : 0 ≤ (sums l).2 ∧ (sums l).2 ≤ l.length := by
  have := fold_bound l (some 0, 0)
  unfold sums
  simpa using this
def SM (l : List Nat) : Option Nat × Int := if l.length > 4000 then (some 0, -1) else sums l

theorem spec_next {l : List Nat} {x : Int} {r r2 : Nat} {n : Int} {b : Bool} (h0 : 0 ≤ x) (h : x.toNat < l.length) (hk : kn (rdOf 0 l x) = b) (hr : can r = (sums (l.take x.toNat)).1) (hn : n = (sums (l.take x.toNat)).2)
    (h2 : if b then can r2 = fop .add (can r) (can (rdOf 0 l x)) else r2 = r) : can r2 = (sums (l.take (x + 1).toNat)).1 ∧ (if b then n + 1 else n) = (sums (l.take (x + 1).toNat)).2 := by
  rw [show (x + 1).toNat = x.toNat + 1 from by omega, sums_next l _ h]
  unfold rdOf at *
  unfold stp
  rw [hk]
  cases b
  · simp only [Bool.false_eq_true, if_false] at h2 ⊢
    rw [h2]; exact ⟨hr, hn⟩
  · simp only [if_true] at h2 ⊢
    rw [h2, hr, hn]; exact ⟨rfl, rfl⟩

set_option maxHeartbeats 4000000 in
set_option maxRecDepth 100000 in
theorem specSum_any (A0 : Option Addr) (c0 : Nat) (l0 : List Nat) (w : World) (hr0 : flt.C w A0 l0.length l0) (hc0 : l0.length ≤ c0) :
    Calls Try.prog 43 #[.slice A0 l0.length c0] w fun e w' => ∃ r : Nat, e = .returned (.tuple #[.float .f64 r, .int .i64 (SM l0).2]) ∧ can r = (SM l0).1 ∧ r < 18446744073709551616 ∧ Drawn0 w w' := by
  have HR0 := Aside0.mk hr0
  have HC0 := Aside0.mk hc0
  clear hr0 hc0
  by_cases hm : (l0.length : Int) > 4000
  · have c3b0 : decide (4000 < (l0.length : Int)) = true := decide_eq_true hm
    have c3b1 : decide (4000 < l0.length) = true := decide_eq_true (by omega)
    have hs : SM l0 = (some 0, -1) := by unfold SM; rw [if_pos (by omega)]
    rw [hs]
    clear hm hs
    go_enter Try.func43, Try.ntmps43
    go_wp2
    go_ret2
    exact ⟨_, rfl, can_zero, by omega, Drawn0.refl _⟩
  · have c3b0 : decide (4000 < (l0.length : Int)) = false := decide_eq_false hm
    have c3b1 : decide (4000 < l0.length) = false := decide_eq_false (by omega)
    have hs : SM l0 = sums l0 := by unfold SM; rw [if_neg (by omega)]
    rw [hs]
    have HM := Aside0.mk hm
    clear hm hs
    go_enter Try.func43, Try.ntmps43
    go_wp2
    go_loopg [4, 5, 6] l0.length (fun kq v4 v5 v6 w' => ∃ (r : Nat) (n x : Int), v4 = .float .f64 r ∧ v5 = .int .i64 n ∧ v6 = .int .i64 x ∧ Aside0 (0 ≤ x ∧ x.toNat + kq = l0.length ∧ can r = (sums (l0.take x.toNat)).1 ∧ n = (sums (l0.take x.toNat)).2 ∧ r < 18446744073709551616) ∧ Drawn0 w w')
    case atStart => exact ⟨0, 0, 0, rfl, rfl, rfl, ⟨by omega, by simp, by simp [sums, can_zero], by simp [sums], by omega⟩, Drawn0.refl _⟩
    case round =>
      try clear p2
      obtain ⟨r, n, x, rfl, rfl, rfl, HX, ⟨m1, rfl⟩⟩ := hrel
      cases gk with
      | zero =>
        have c6b0 : decide (x < (l0.length : Int)) = false := decide_eq_false (by have := HX.out; omega)
        go_wp2
        go_ret2
        obtain ⟨x0, x1, x2, x3, x4⟩ := HX.out
        rw [List.take_of_length_le (by omega)] at x2 x3
        exact ⟨_, by rw [← x3]; rfl, x2, x4, by repeat (first | exact Drawn0.refl _ | apply Drawn0.step)⟩
      | succ k1 =>
        obtain ⟨p111, hx, h2, h3, h4⟩ := HX.out
        have q111 : x < (l0.length : Int) := by omega
        have c6b0 : decide (x < (l0.length : Int)) = true := decide_eq_true q111
        obtain ⟨ad111, e111, hx111_0⟩ := at_flt HR0.out x p111 q111
        cases e111
        have HW1 := Aside0.mk (wrap_next p111 (by have := HM.out; omega) : wrap64 (x + 1) = x + 1)
        have hnb := sums_bound (l0.take x.toNat)
        have HW2 := Aside0.mk (wrap_next (x := n) (by rw [h3]; exact hnb.1) (by have := HM.out; have h5 := hnb.2; rw [← h3] at h5; have : (l0.take x.toNat).length ≤ l0.length := (by rw [List.length_take]; omega); omega) : wrap64 (n + 1) = n + 1)
        clear hnb hx h2 h3 h4
        cases hk : kn (rdOf 0 l0 x)
        · replace p111 := eq_true p111
          replace q111 := eq_true q111
          go_wp2_with (go_at_call 20; refine (specKnown_any _ _).mono ?_; rintro e w' ⟨rfl, nn, rfl⟩)
          go_roundg k1
          case measure => omega
          case rel =>
            obtain ⟨x0, x1, x2, x3, x4⟩ := HX.out
            obtain ⟨y2, y3⟩ := spec_next (b := false) x0 (by omega) hk x2 x3 rfl
            exact ⟨r, n, x + 1, rfl, rfl, by rw [HW1.out], ⟨by omega, by omega, y2, y3, x4⟩, by repeat (first | exact Drawn0.refl _ | apply Drawn0.step)⟩
        · replace p111 := eq_true p111
          replace q111 := eq_true q111
          go_wp2_with (first | (go_at_call 20; refine (specKnown_any _ _).mono ?_; rintro e w' ⟨rfl, nn, rfl⟩) | (refine wpList_fop rfl rfl (by decide) rfl rfl ?_; intro r2 n2 hr hl; have hr' := Lib.hid hr; have hl' := Lib.hid hl; clear hr hl))
          go_roundg k1
          case measure => omega
          case rel =>
            obtain ⟨x0, x1, x2, x3, x4⟩ := HX.out
            obtain ⟨y2, y3⟩ := spec_next (b := true) x0 (by omega) hk x2 x3 hr'.out
            exact ⟨r2, n + 1, x + 1, rfl, by rw [HW2.out], by rw [HW1.out], ⟨by omega, by omega, y2, y3, hl'.out⟩, by repeat (first | exact Drawn0.refl _ | apply Drawn0.step)⟩
theorem rd_lt {l : List Nat} (h : ∀ x ∈ l, x < 18446744073709551616) (i : Int) : rdOf 0 l i < 18446744073709551616 := by
  unfold rdOf
  rw [List.getD_eq_getElem?_getD]
  cases hg : l[i.toNat]? with
  | none => simp
  | some y => exact h y (List.mem_of_getElem? hg)

set_option maxHeartbeats 4000000 in
set_option maxRecDepth 100000 in
theorem implSum_any (A0 : Option Addr) (c0 : Nat) (l0 : List Nat) (w : World) (hr0 : flt.C w A0 l0.length l0) (hc0 : l0.length ≤ c0) (hlt : ∀ x ∈ l0, x < 18446744073709551616) :
    Calls Try.prog 45 #[.slice A0 l0.length c0] w fun e w' => ∃ r : Nat, e = .returned (.tuple #[.float .f64 r, .int .i64 (SM l0).2]) ∧ can r = (SM l0).1 ∧ r < 18446744073709551616 ∧ Drawn0 w w' := by
  have HR0 := Aside0.mk hr0
  have HC0 := Aside0.mk hc0
  have HL := Aside0.mk hlt
  clear hr0 hc0 hlt
  by_cases hm : (l0.length : Int) > 4000
  · have c3b0 : decide (4000 < (l0.length : Int)) = true := decide_eq_true hm
    have c3b1 : decide (4000 < l0.length) = true := decide_eq_true (by omega)
    have hs : SM l0 = (some 0, -1) := by unfold SM; rw [if_pos (by omega)]
    rw [hs]
    clear hm hs
    go_enter Try.func45, Try.ntmps45
    go_wp2
    go_ret2
    exact ⟨_, rfl, can_zero, by omega, Drawn0.refl _⟩
  · have c3b0 : decide (4000 < (l0.length : Int)) = false := decide_eq_false hm
    have c3b1 : decide (4000 < l0.length) = false := decide_eq_false (by omega)
    have hs : SM l0 = sums l0 := by unfold SM; rw [if_neg (by omega)]
    rw [hs]
    have HM := Aside0.mk hm
    clear hm hs
    go_enter Try.func45, Try.ntmps45
    go_wp2
    go_loopg [4, 5, 13] l0.length (fun kq v4 v5 v13 w' => ∃ (r : Nat) (n x : Int), v4 = .float .f64 r ∧ v5 = .int .i64 n ∧ v13 = .int .i64 x ∧ Aside0 (0 ≤ x ∧ x.toNat + kq = l0.length ∧ can r = (sums (l0.take x.toNat)).1 ∧ n = (sums (l0.take x.toNat)).2 ∧ r < 18446744073709551616) ∧ Drawn0 w w')
    case atStart => exact ⟨0, 0, 0, rfl, rfl, rfl, ⟨by omega, by simp, by simp [sums, can_zero], by simp [sums], by omega⟩, Drawn0.refl _⟩
    case round =>
      try clear p2
      obtain ⟨r, n, x, rfl, rfl, rfl, HX, ⟨m1, rfl⟩⟩ := hrel
      cases gk with
      | zero =>
        have c6b0 : decide (x < (l0.length : Int)) = false := decide_eq_false (by have := HX.out; omega)
        go_wp2
        go_ret2
        obtain ⟨x0, x1, x2, x3, x4⟩ := HX.out
        rw [List.take_of_length_le (by omega)] at x2 x3
        exact ⟨_, by rw [← x3]; rfl, x2, x4, by repeat (first | exact Drawn0.refl _ | apply Drawn0.step)⟩
      | succ k1 =>
        obtain ⟨p111, hx, h2, h3, h4⟩ := HX.out
        have q111 : x < (l0.length : Int) := by omega
        have c6b0 : decide (x < (l0.length : Int)) = true := decide_eq_true q111
        obtain ⟨ad111, e111, hx111_0⟩ := at_flt HR0.out x p111 q111
        cases e111
        have HW1 := Aside0.mk (wrap_next p111 (by have := HM.out; omega) : wrap64 (x + 1) = x + 1)
        have hnb := sums_bound (l0.take x.toNat)
        have HW2 := Aside0.mk (wrap_next (x := n) (by rw [h3]; exact hnb.1) (by have := HM.out; have h5 := hnb.2; rw [← h3] at h5; have : (l0.take x.toNat).length ≤ l0.length := (by rw [List.length_take]; omega); omega) : wrap64 (n + 1) = n + 1)
        clear hnb hx h2 h3 h4
        have hb := Aside0.mk (rd_lt HL.out x)
        cases hk : kn (rdOf 0 l0 x)
        · replace p111 := eq_true p111
          replace q111 := eq_true q111
          go_wp2_with (go_at_call 21; refine (implKnown_any _ hb.out _).mono ?_; rintro e w' ⟨rfl, rfl⟩)
          go_roundg k1
          case measure => omega
          case rel =>
            obtain ⟨x0, x1, x2, x3, x4⟩ := HX.out
            obtain ⟨y2, y3⟩ := spec_next (b := false) x0 (by omega) hk x2 x3 rfl
            exact ⟨r, n, x + 1, rfl, rfl, by rw [HW1.out], ⟨by omega, by omega, y2, y3, x4⟩, by repeat (first | exact Drawn0.refl _ | apply Drawn0.step)⟩
        · replace p111 := eq_true p111
          replace q111 := eq_true q111
          go_wp2_with (first | (go_at_call 21; refine (implKnown_any _ hb.out _).mono ?_; rintro e w' ⟨rfl, rfl⟩) | (refine wpList_fop rfl rfl (by decide) rfl rfl ?_; intro r2 n2 hr hl; have hr' := Lib.hid hr; have hl' := Lib.hid hl; clear hr hl))
          go_roundg k1
          case measure => omega
          case rel =>
            obtain ⟨x0, x1, x2, x3, x4⟩ := HX.out
            obtain ⟨y2, y3⟩ := spec_next (b := true) x0 (by omega) hk x2 x3 hr'.out
            exact ⟨r2, n + 1, x + 1, rfl, by rw [HW2.out], by rw [HW1.out], ⟨by omega, by omega, y2, y3, hl'.out⟩, by repeat (first | exact Drawn0.refl _ | apply Drawn0.step)⟩

def MN (l : List Nat) : Option Nat := if (SM l).2 ≤ 0 then none else fop .quo (SM l).1 (can (floatOfInt FloatKind.f64 (SM l).2))

set_option maxHeartbeats 4000000 in
theorem specMean_any (A0 : Option Addr) (c0 : Nat) (l0 : List Nat) (w : World) (hr0 : flt.C w A0 l0.length l0) (hc0 : l0.length ≤ c0) :
    Calls Try.prog 47 #[.slice A0 l0.length c0] w fun e w' => ∃ r : Nat, e = .returned (.float .f64 r) ∧ can r = MN l0 ∧ r < 18446744073709551616 ∧ Drawn0 w w' := by
  have HR0 := Aside0.mk hr0
  have HC0 := Aside0.mk hc0
  clear hr0 hc0
  by_cases hn : (SM l0).2 ≤ 0
  · have c3b0 : decide ((SM l0).2 ≤ 0) = true := decide_eq_true hn
    have hm := Aside0.mk (show MN l0 = none by unfold MN; rw [if_pos hn])
    clear hn
    go_enter Try.func47, Try.ntmps47
    go_wp2_with (first | (go_at_call 43; refine (specSum_any _ _ _ _ HR0.out HC0.out).mono ?_; rintro e w' ⟨rs, rfl, hs, ls, n, rfl⟩; have hs' := Lib.hid hs; have ls' := Lib.hid ls; clear hs ls) | (go_at_call 68; refine (l1None_any _).mono ?_; rintro e w' ⟨r, n2, rfl, rfl, hr, hl⟩))
    go_ret
    exact ⟨_, rfl, by rw [hm.out]; exact hr, hl, by repeat (first | exact Drawn0.refl _ | apply Drawn0.step)⟩
  · have c3b0 : decide ((SM l0).2 ≤ 0) = false := decide_eq_false hn
    have hm := Aside0.mk (show MN l0 = fop .quo (SM l0).1 (can (floatOfInt FloatKind.f64 (SM l0).2)) by unfold MN; rw [if_neg hn])
    clear hn
    go_enter Try.func47, Try.ntmps47
    go_wp2_with (first | (go_at_call 43; refine (specSum_any _ _ _ _ HR0.out HC0.out).mono ?_; rintro e w' ⟨rs, rfl, hs, ls, n, rfl⟩; have hs' := Lib.hid hs; have ls' := Lib.hid ls; clear hs ls) | (refine wpList_fop rfl rfl (by decide) rfl rfl ?_; intro r2 n2 hr hl; have hr' := Lib.hid hr; have hl' := Lib.hid hl; clear hr hl))
    go_ret
    exact ⟨_, rfl, by rw [hm.out, hr'.out, hs'.out], hl'.out, by repeat (first | exact Drawn0.refl _ | apply Drawn0.step)⟩

set_option maxHeartbeats 4000000 in
theorem implMean_any (A0 : Option Addr) (c0 : Nat) (l0 : List Nat) (w : World) (hr0 : flt.C w A0 l0.length l0) (hc0 : l0.length ≤ c0) (hlt : ∀ x ∈ l0, x < 18446744073709551616) :
    Calls Try.prog 48 #[.slice A0 l0.length c0] w fun e w' => ∃ r : Nat, e = .returned (.float .f64 r) ∧ can r = MN l0 ∧ r < 18446744073709551616 ∧ Drawn0 w w' := by
  have HR0 := Aside0.mk hr0
  have HC0 := Aside0.mk hc0
  clear hr0 hc0
  by_cases hn : (SM l0).2 ≤ 0
  · have c3b0 : decide ((SM l0).2 ≤ 0) = true := decide_eq_true hn
    have hm := Aside0.mk (show MN l0 = none by unfold MN; rw [if_pos hn])
    clear hn
    go_enter Try.func48, Try.ntmps48
    go_wp2_with (first | (go_at_call 45; refine (implSum_any _ _ _ _ HR0.out HC0.out hlt).mono ?_; rintro e w' ⟨rs, rfl, hs, ls, n, rfl⟩; have hs' := Lib.hid hs; have ls' := Lib.hid ls; clear hs ls) | (go_at_call 69; refine (nan_any _).mono ?_; rintro e w' ⟨rfl, rfl⟩))
    go_ret
    exact ⟨_, rfl, by rw [hm.out]; exact can_qnan, by omega, by repeat (first | exact Drawn0.refl _ | apply Drawn0.step)⟩
  · have c3b0 : decide ((SM l0).2 ≤ 0) = false := decide_eq_false hn
    have hm := Aside0.mk (show MN l0 = fop .quo (SM l0).1 (can (floatOfInt FloatKind.f64 (SM l0).2)) by unfold MN; rw [if_neg hn])
    clear hn
    go_enter Try.func48, Try.ntmps48
    go_wp2_with (first | (go_at_call 45; refine (implSum_any _ _ _ _ HR0.out HC0.out hlt).mono ?_; rintro e w' ⟨rs, rfl, hs, ls, n, rfl⟩; have hs' := Lib.hid hs; have ls' := Lib.hid ls; clear hs ls) | (refine wpList_fop rfl rfl (by decide) rfl rfl ?_; intro r2 n2 hr hl; have hr' := Lib.hid hr; have hl' := Lib.hid hl; clear hr hl))
    go_ret
    exact ⟨_, rfl, by rw [hm.out, hr'.out, hs'.out], hl'.out, by repeat (first | exact Drawn0.refl _ | apply Drawn0.step)⟩

set_option maxHeartbeats 8000000 in
theorem lawSum (A0 : Option Addr) (c0 : Nat) (l0 : List Nat) (w : World) (hr0 : flt.C w A0 l0.length l0) (hc0 : l0.length ≤ c0) (hlt : ∀ x ∈ l0, x < 18446744073709551616) :
    Calls Try.prog 12 #[.slice A0 l0.length c0] w fun e w' => e = .returned (.bool true) ∧ Below w.heap.size w w' := by
  have HR0 := Aside0.mk hr0
  have HC0 := Aside0.mk hc0
  have HL := Aside0.mk hlt
  clear hr0 hc0 hlt
  have HB := Aside0.mk (Below.refl w.heap.size w)
  by_cases hm : (l0.length : Int) > 1048576
  · have c3b0 : decide (1048576 < (l0.length : Int)) = true := decide_eq_true hm
    have c3b1 : decide (1048576 < l0.length) = true := decide_eq_true (by omega)
    clear hm
    go_enter Try.func12, Try.ntmps12
    go_wp2
    go_ret
    exact ⟨rfl, Below.refl _ _⟩
  · have c3b0 : decide (1048576 < (l0.length : Int)) = false := decide_eq_false hm
    have c3b1 : decide (1048576 < l0.length) = false := decide_eq_false (by omega)
    have HM := Aside0.mk (show l0.length ≤ 1048576 by omega)
    clear hm
    go_enter Try.func12, Try.ntmps12
    go_wp2_with (first
      | (go_at_call 44; refine (toF_reads _ _ l0 _ (by repeat (first | exact HR0.out | refine Kd.C_alloc ?_ _ | refine Kd.C_drewN ?_ _)) HC0.out HM.out).mono ?_; rintro e w' ⟨A, c, rfl, hl, hC, hb⟩; replace HR0 := Aside0.mk (Kd.C_below (by repeat (first | exact HR0.out | refine Kd.C_alloc ?_ _ | refine Kd.C_drewN ?_ _)) hb); replace HB := Aside0.mk (below_step (by repeat (first | (with_reducible first | exact HB.out | apply below_alloc | apply pw_below_drewN | apply below_drew1) | exact HB.out)) hb); (try replace HR2 := Aside0.mk (Kd.C_below (by repeat (first | exact HR2.out | refine Kd.C_alloc ?_ _ | refine Kd.C_drewN ?_ _)) hb)); first | (have z := HR2; clear z; have HR3 := Aside0.mk hC) | (have z := hs'; clear z; have HC2 := Aside0.mk hl; have HR2 := Aside0.mk hC) | (have HC1 := Aside0.mk hl; have HR1 := Aside0.mk hC); clear hC hb hl)
      | (go_at_call 43; refine (specSum_any _ _ _ _ HR1.out HC1.out).mono ?_; rintro e w' ⟨rs, rfl, hs, ls, n, rfl⟩; have hs' := Lib.hid hs; have ls' := Lib.hid ls; clear hs ls HR1)
      | (go_at_call 45; refine (implSum_any _ _ _ _ HR2.out HC2.out HL.out).mono ?_; rintro e w' ⟨ri, rfl, hi, li, n, rfl⟩; have q1 := sfB_of (hi.trans hs'.out.symm); clear hi li)
      | (go_at_call 32; refine (sameFloat_any _ _ _).mono ?_; rintro e w' ⟨rfl, n, rfl⟩)
      | (go_at_call 46; refine (eqF_any _ _ _ _ l0 _ (by repeat (first | exact HR2.out | refine Kd.C_alloc ?_ _ | refine Kd.C_drewN ?_ _)) HR3.out HM.out).mono ?_; rintro e w' ⟨rfl, n, rfl⟩))
    go_ret
    exact ⟨rfl, by repeat (first | (with_reducible first | exact HB.out | apply below_alloc | apply pw_below_drewN | apply below_drew1) | exact HB.out)⟩

set_option maxHeartbeats 8000000 in
theorem lawMean (A0 : Option Addr) (c0 : Nat) (l0 : List Nat) (w : World) (hr0 : flt.C w A0 l0.length l0) (hc0 : l0.length ≤ c0) (hlt : ∀ x ∈ l0, x < 18446744073709551616) :
    Calls Try.prog 13 #[.slice A0 l0.length c0] w fun e w' => e = .returned (.bool true) ∧ Below w.heap.size w w' := by
  have HR0 := Aside0.mk hr0
  have HC0 := Aside0.mk hc0
  have HL := Aside0.mk hlt
  clear hr0 hc0 hlt
  have HB := Aside0.mk (Below.refl w.heap.size w)
  by_cases hm : (l0.length : Int) > 1048576
  · have c3b0 : decide (1048576 < (l0.length : Int)) = true := decide_eq_true hm
    have c3b1 : decide (1048576 < l0.length) = true := decide_eq_true (by omega)
    clear hm
    go_enter Try.func13, Try.ntmps13
    go_wp2
    go_ret
    exact ⟨rfl, Below.refl _ _⟩
  · have c3b0 : decide (1048576 < (l0.length : Int)) = false := decide_eq_false hm
    have c3b1 : decide (1048576 < l0.length) = false := decide_eq_false (by omega)
    have HM := Aside0.mk (show l0.length ≤ 1048576 by omega)
    clear hm
    go_enter Try.func13, Try.ntmps13
    go_wp2_with (first
      | (go_at_call 44; refine (toF_reads _ _ l0 _ (by repeat (first | exact HR0.out | refine Kd.C_alloc ?_ _ | refine Kd.C_drewN ?_ _)) HC0.out HM.out).mono ?_; rintro e w' ⟨A, c, rfl, hl, hC, hb⟩; replace HR0 := Aside0.mk (Kd.C_below (by repeat (first | exact HR0.out | refine Kd.C_alloc ?_ _ | refine Kd.C_drewN ?_ _)) hb); replace HB := Aside0.mk (below_step (by repeat (first | (with_reducible first | exact HB.out | apply below_alloc | apply pw_below_drewN | apply below_drew1) | exact HB.out)) hb); (try replace HR2 := Aside0.mk (Kd.C_below (by repeat (first | exact HR2.out | refine Kd.C_alloc ?_ _ | refine Kd.C_drewN ?_ _)) hb)); first | (have z := HR2; clear z; have HR3 := Aside0.mk hC) | (have z := hs'; clear z; have HC2 := Aside0.mk hl; have HR2 := Aside0.mk hC) | (have HC1 := Aside0.mk hl; have HR1 := Aside0.mk hC); clear hC hb hl)
      | (go_at_call 47; refine (specMean_any _ _ _ _ HR1.out HC1.out).mono ?_; rintro e w' ⟨rs, rfl, hs, ls, n, rfl⟩; have hs' := Lib.hid hs; have ls' := Lib.hid ls; clear hs ls HR1)
      | (go_at_call 48; refine (implMean_any _ _ _ _ HR2.out HC2.out HL.out).mono ?_; rintro e w' ⟨ri, rfl, hi, li, n, rfl⟩; have q1 := sfB_of (hi.trans hs'.out.symm); clear hi li)
      | (go_at_call 32; refine (sameFloat_any _ _ _).mono ?_; rintro e w' ⟨rfl, n, rfl⟩)
      | (go_at_call 46; refine (eqF_any _ _ _ _ l0 _ (by repeat (first | exact HR2.out | refine Kd.C_alloc ?_ _ | refine Kd.C_drewN ?_ _)) HR3.out HM.out).mono ?_; rintro e w' ⟨rfl, n, rfl⟩))
    go_ret
    exact ⟨rfl, by repeat (first | (with_reducible first | exact HB.out | apply below_alloc | apply pw_below_drewN | apply below_drew1) | exact HB.out)⟩
end Go.Proofs.Ytbgacfjocjcffaa.Fs
