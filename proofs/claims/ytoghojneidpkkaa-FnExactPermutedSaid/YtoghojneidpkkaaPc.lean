/-
  The program's counting by a function literal that calls itself (impl.Permuted): what it leaves in its two counters.
  Conditions: the literal's captured variables stand in five blocks of their own.
-/
import Derived.Test.YtoghojneidpkkaaPFnExactPermutedx1
import Derived.StillTailTactics
import Derived.OneCell
import Derived.Laws.EntriesVeiled
import Derived.Deep.QuietTactic
import Derived.BigQuiet
namespace Go.Proofs.Ytoghojneidpkkaa.PFnExactPermuted
open Go.RowKit Go.Proofs.YtoghojneidpkkaaW.PrintWords Go.Proofs.YtoghojneidpkkaaW.PrintLast Go.Proofs.YtoghojneidpkkaaW.PrintMore
set_option linter.unusedVariables false
set_option linter.unusedSimpArgs false

def lp (f : Int → Int × Int) : Nat → Int → Int × Int
  | 0, _ => (0, 0)
  | d + 1, i => ((f i).1 + (lp f d (i + 1)).1, (f i).2 + (lp f d (i + 1)).2)
/-- How many ways there are to choose 'l' more from place 'i' on, and how many of them come to 'want' at least. -/
def Ct (all : List Int) (want : Int) : Nat → Int → Int → Int × Int
  | 0, _, sum => (if want ≤ sum then 1 else 0, 1)
  | l + 1, i, sum => lp (fun j => Ct all want l (j + 1) (wrap64 (sum + rd all j))) ((all.length : Int) - l - i).toNat i

/-- The literal, with what it has captured. -/
def FC (bw bm bn ba bc : Nat) : Value := .func (.func 57) #[] #[.pointer (some ⟨bw, 0, none⟩), .pointer (some ⟨bm, 0, none⟩), .pointer (some ⟨bn, 0, none⟩), .pointer (some ⟨ba, 0, none⟩), .pointer (some ⟨bc, 0, none⟩)]

structure Inv (w1 : World) (bw bm bn ba bc : Nat) (want : Int) (A : Option Addr) (cap : Nat) (all : List Int) (x y : Int) (w : World) : Prop where
  bel : Below w1.heap.size w1 w
  cw : w.heap[bw]? = some (.cells #[.int .i64 (wrap64 x)] 2 (0, 0))
  cm : w.heap[bm]? = some (.cells #[.int .i64 want] 2 (0, 0))
  cn : w.heap[bn]? = some (.cells #[.int .i64 (wrap64 y)] 2 (0, 0))
  ca : w.heap[ba]? = some (.cells #[.slice A all.length cap] 29 (0, 0))
  cc : w.heap[bc]? = some (.cells #[FC bw bm bn ba bc] 74 (0, 0))
structure Apart (w1 : World) (bw bm bn ba bc : Nat) : Prop where
  gw : w1.heap.size ≤ bw
  gn : w1.heap.size ≤ bn
  wm : bw ≠ bm
  wn : bw ≠ bn
  wa : bw ≠ ba
  wc : bw ≠ bc
  nm : bn ≠ bm
  na : bn ≠ ba
  nc : bn ≠ bc

theorem wrap_one (x : Int) : wrap64 (wrap64 x + 1) = wrap64 (x + 1) := by unfold wrap64; omega
theorem Inv.drewN {w1 : World} {bw bm bn ba bc : Nat} {want : Int} {A : Option Addr} {cap : Nat} {all : List Int} {x y : Int} {w : World} (h : Inv w1 bw bm bn ba bc want A cap all x y w) (n : Nat) : Inv w1 bw bm bn ba bc want A cap all x y (w.drewN n) :=
  ⟨pw_below_drewN h.bel n, blk_drewN h.cw n, blk_drewN h.cm n, blk_drewN h.cn n, blk_drewN h.ca n, blk_drewN h.cc n⟩
theorem Inv.more {w1 : World} {bw bm bn ba bc : Nat} {want : Int} {A : Option Addr} {cap : Nat} {all : List Int} {x y : Int} {w : World} (h : Inv w1 bw bm bn ba bc want A cap all x y w) (a : Apart w1 bw bm bn ba bc) :
    Inv w1 bw bm bn ba bc want A cap all (x + 1) y (w.setCell ⟨bw, 0, none⟩ (.int .i64 (wrap64 (wrap64 x + 1)))) := by
  refine ⟨below_set h.bel a.gw, ?_, blk_far h.cm (Ne.symm a.wm) _, blk_far h.cn (Ne.symm a.wn) _, blk_far h.ca (Ne.symm a.wa) _, blk_far h.cc (Ne.symm a.wc) _⟩
  rw [wrap_one]
  exact blk_put h.cw 0 _ rfl
theorem Inv.come {w1 : World} {bw bm bn ba bc : Nat} {want : Int} {A : Option Addr} {cap : Nat} {all : List Int} {x y : Int} {w : World} (h : Inv w1 bw bm bn ba bc want A cap all x y w) (a : Apart w1 bw bm bn ba bc) :
    Inv w1 bw bm bn ba bc want A cap all x (y + 1) (w.setCell ⟨bn, 0, none⟩ (.int .i64 (wrap64 (wrap64 y + 1)))) := by
  refine ⟨below_set h.bel a.gn, blk_far h.cw a.wn _, blk_far h.cm (Ne.symm a.nm) _, ?_, blk_far h.ca (Ne.symm a.na) _, blk_far h.cc (Ne.symm a.nc) _⟩
  rw [wrap_one]
  exact blk_put h.cn 0 _ rfl

set_option maxHeartbeats 4000000 in
theorem choose0 {w1 : World} {bw bm bn ba bc : Nat} (ap : Apart w1 bw bm bn ba bc) {want : Int} {A : Option Addr} {cap : Nat} {all : List Int} (i sum x y : Int) (w : World) (h : Inv w1 bw bm bn ba bc want A cap all x y w) :
    Calls Try.prog 57 #[.int .i64 i, .int .i64 0, .int .i64 sum, .pointer (some ⟨bw, 0, none⟩), .pointer (some ⟨bm, 0, none⟩), .pointer (some ⟨bn, 0, none⟩), .pointer (some ⟨ba, 0, none⟩), .pointer (some ⟨bc, 0, none⟩)] w
      fun e w' => e = .returned (.tuple #[]) ∧ Inv w1 bw bm bn ba bc want A cap all (x + (Ct all want 0 i sum).2) (y + (Ct all want 0 i sum).1) w' := by
  have hw := blk_cell h.cw 0
  have hm := blk_cell h.cm 0
  have hn := blk_cell h.cn 0
  have fw := blk_frozen h.cw 0
  have fn := blk_frozen h.cn 0
  have n1 := ap.wn
  have n2 := ap.wm
  have HI := Aside0.mk h
  have HA := Aside0.mk ap
  clear h ap
  by_cases c : want ≤ sum
  · have ht : Ct all want 0 i sum = (1, 1) := by unfold Ct; rw [if_pos c]
    rw [ht]
    have cb : decide (want ≤ sum) = true := decide_eq_true c
    clear ht c
    go_enter Try.func57, Try.ntmps57
    go_wp2
    exact bodyPost_ret (v := .tuple #[]) (by first | rfl | simp [results, go_sem, Try.results57]) rfl ⟨rfl, (HI.out.more HA.out).come HA.out⟩
  · have ht : Ct all want 0 i sum = (0, 1) := by unfold Ct; rw [if_neg c]
    rw [ht]
    have cb : decide (want ≤ sum) = false := decide_eq_false c
    clear ht c
    go_enter Try.func57, Try.ntmps57
    go_wp2
    exact bodyPost_ret (v := .tuple #[]) (by first | rfl | simp [results, go_sem, Try.results57]) rfl ⟨rfl, by rw [Int.add_zero]; exact HI.out.more HA.out⟩
set_option maxHeartbeats 8000000 in
set_option maxRecDepth 100000 in
theorem choose {w1 : World} {bw bm bn ba bc : Nat} (ap : Apart w1 bw bm bn ba bc) {want : Int} {A : Option Addr} {cap : Nat} {all : List Int} (hr : Kd.C (Kd.int .i64) w1 A all.length all) (hl : all.length ≤ 16) :
    ∀ (l : Nat) (lf i sum x y : Int) (w : World), lf = l → l ≤ 16 → 0 ≤ i → i ≤ 17 → Inv w1 bw bm bn ba bc want A cap all x y w →
    Calls Try.prog 57 #[.int .i64 i, .int .i64 lf, .int .i64 sum, .pointer (some ⟨bw, 0, none⟩), .pointer (some ⟨bm, 0, none⟩), .pointer (some ⟨bn, 0, none⟩), .pointer (some ⟨ba, 0, none⟩), .pointer (some ⟨bc, 0, none⟩)] w
      fun e w' => e = .returned (.tuple #[]) ∧ Inv w1 bw bm bn ba bc want A cap all (x + (Ct all want l i sum).2) (y + (Ct all want l i sum).1) w'
  | 0, lf, i, sum, x, y, w, hlf, h16, h0, h17, h => by
    obtain rfl : lf = 0 := by omega
    exact choose0 ap i sum x y w h
  | l + 1, lf, i, sum, x, y, w, hlf, h16, h0, h17, h => by
    have IH := Aside0.mk (choose ap (want := want) (A := A) (cap := cap) hr hl l)
    obtain ⟨T, hT⟩ : ∃ T, Ct all want (l + 1) i sum = T := ⟨_, rfl⟩
    rw [hT]
    have HT := Aside0.mk hT
    have HI := Aside0.mk h
    have HA := Aside0.mk ap
    have HR := Aside0.mk hr
    have HL := Aside0.mk hl
    have HF := Aside0.mk hlf
    have HJ := Aside0.mk (show 0 ≤ i ∧ i ≤ 17 ∧ l + 1 ≤ 16 from ⟨h0, h17, h16⟩)
    have lz : (lf == 0) = false := by simp; omega
    clear hT h ap hr hl hlf h0 h17 h16
    go_enter Try.func57, Try.ntmps57
    go_wp2
    go_loopw [11] (fun v wr => ∃ (j x' y' : Int) (d : Nat), v = .int .i64 j ∧ Aside0 (i ≤ j ∧ j ≤ 17 ∧ d = ((all.length : Int) - l - j).toNat) ∧ Aside0 (Inv w1 bw bm bn ba bc want A cap all x' y' wr) ∧ Aside0 (x' + (lp (fun j => Ct all want l (j + 1) (wrap64 (sum + rd all j))) d j).2 = x + T.2 ∧ y' + (lp (fun j => Ct all want l (j + 1) (wrap64 (sum + rd all j))) d j).1 = y + T.1)) (fun v _ => (18 - intOf v).toNat)
    case atStart => exact ⟨i, x, y, _, rfl, ⟨by have := HJ.out; omega, by have := HJ.out; omega, rfl⟩, HI, ⟨by rw [← HT.out]; rfl, by rw [← HT.out]; rfl⟩⟩
    case round =>
      clear HI
      obtain ⟨j, x', y', d, rfl, HK, HI, HS⟩ := hrel
      have k1 := HK.out.1
      have k2 := HK.out.2.1
      have k3 := HJ.out.1
      have k4 := HJ.out.2.2
      have k5 := HL.out
      have k6 := HF.out
      have ca := (blk_cell HI.out.ca 0)
      have cc := (blk_cell HI.out.cc 0)
      have j0 : 0 ≤ j := by omega
      have l0 : 0 ≤ lf := by omega
      have l1 : lf ≤ 16 := by omega
      by_cases c : j + lf ≤ (all.length : Int)
      · have cb : decide (j + lf ≤ (all.length : Int)) = true := decide_eq_true c
        have jb : j < (all.length : Int) := by omega
        obtain ⟨ad, e, hx⟩ := Kd.at_int (Kd.C_below HR.out HI.out.bel) j j0 jb
        cases e
        have HC := Aside0.mk c
        have p1 := eq_true j0
        have p2 := eq_true jb
        clear c k1 k3 k4 k5 k6
        unfold FC at cc
        go_upto_region 7 with (fail)
        have e1 : IntKind.i64.wrap (j + 1) = j + 1 := IntWalk.i64_in _ (by omega)
        have e2 : IntKind.i64.wrap (lf - 1) = lf - 1 := IntWalk.i64_in _ (by omega)
        have e3 : IntKind.i64.wrap (sum + rd all j) = wrap64 (sum + rd all j) := by rw [IntKind.wrap_i64]; unfold wrap64; rfl
        have E1 := Aside0.mk e1
        have E2 := Aside0.mk e2
        have E3 := Aside0.mk e3
        clear e1 e2 e3
        go_still_tail 11, (by kernel_rfl)
        rw [E1.out, E2.out, E3.out]
        clear E1 E2 E3
        change wpList _ _ _ _ _ (wr.drewN 1)
        obtain ⟨W2, hW2⟩ : ∃ W2, wr.drewN 1 = W2 := ⟨_, rfl⟩
        have HI2 := Aside0.mk (hW2 ▸ HI.out.drewN 1)
        rw [hW2]
        clear hW2 ca cc hx HI
        have q1 := Aside0.mk (show lf - 1 = (l : Int) ∧ l ≤ 16 ∧ 0 ≤ j + 1 ∧ j + 1 ≤ 17 from by have := HF.out; have := HJ.out; have := HL.out; have := HC.out; omega)
        go_wp2_with (go_at_call 57; (with_reducible refine (IH.out _ _ _ x' y' _ q1.out.1 q1.out.2.1 q1.out.2.2.1 q1.out.2.2.2 HI2.out).mono ?_); rintro e w' ⟨rfl, hI⟩; have HI3 := Aside0.mk hI; clear hI HI2)
        go_roundw
        case measure => simp [intOf]; omega
        case rel =>
          have hd := HK.out.2.2
          obtain ⟨d, rfl⟩ : ∃ m, d = m + 1 := ⟨d - 1, by have := HC.out; have := HF.out; omega⟩
          have s1 := HS.out.1
          have s2 := HS.out.2
          simp only [lp] at s1 s2
          exact ⟨j + 1, _, _, d, rfl, ⟨by have := HK.out.1; omega, by have := q1.out; omega, by omega⟩, HI3, ⟨by omega, by omega⟩⟩
      · have cb : decide (j + lf ≤ (all.length : Int)) = false := decide_eq_false c
        have hd : d = 0 := by have := HK.out.2.2; omega
        subst hd
        clear c k1 k3 k4 k5 k6
        go_wp2
        go_end0
        have e1 := HS.out.1
        have e2 := HS.out.2
        simp only [lp, Int.add_zero] at e1 e2
        exact ⟨rfl, by rw [← e1, ← e2]; exact HI.out⟩
/-! ### impl_in: function 51 -/
def impl_in.f (a0 : Int) (a1 : Int) (a2 : Int) : Option (Bool) := if a0 ≥ a1 then (some (decide (a0 ≤ a2))) else (some false)
set_option maxHeartbeats 8000000 in
set_option maxRecDepth 100000 in
theorem impl_in.calls (a0 : Int) (a1 : Int) (a2 : Int) (r : Bool) (w : World) (h : impl_in.f a0 a1 a2 = some r) :
    Calls Try.prog 51 #[.int .i64 a0, .int .i64 a1, .int .i64 a2] w fun e w' => e = .returned (.bool r) ∧ Drawn0 w w' := by
  have H : (if a0 ≥ a1 then (some (decide (a0 ≤ a2))) else (some false)) = some r := h
  clear h
  by_cases c4 : a0 ≥ a1
  · rw [if_pos c4] at H
    have c4b0 : decide (a1 ≤ a0) = true := decide_eq_true c4
    clear c4
    obtain rfl := Option.some.inj H
    go_enter Try.func51, Try.ntmps51
    go_wp2
    go_ret
    exact ⟨by first | rfl | (simp; done) | (simp [*]; done), by repeat (first | exact Drawn0.refl _ | apply Drawn0.step)⟩
  · rw [if_neg c4] at H
    have c4b0 : decide (a1 ≤ a0) = false := decide_eq_false c4
    clear c4
    obtain rfl := Option.some.inj H
    go_enter Try.func51, Try.ntmps51
    go_wp2
    go_ret
    exact ⟨by first | rfl | (simp; done) | (simp [*]; done), by repeat (first | exact Drawn0.refl _ | apply Drawn0.step)⟩

/-! ### impl_each: function 56 -/
def impl_each.l0 : Nat → Int → Int → List Int → Int → Int → Option (Bool)
  | 0, _, _, _, _, _ => none
  | k + 1, x2, x3, x15, x16, x17 => if x17 < x16 then (if 0 ≤ x17 then (if x17 < (x15.length : Int) then ((impl_in.f (rd x15 x17) x2 x3).bind fun t123 => (if t123 = true then (impl_each.l0 k x2 x3 x15 x16 (wrap64 (x17 + 1))) else (some false))) else (none)) else (none)) else (some true)
def impl_each.f (k : Nat) (l0 : List Int) (a1 : Int) (a2 : Int) (a3 : Int) : Option (Bool) := if (l0.length : Int) = a1 then (impl_each.l0 k a2 a3 l0 (l0.length : Int) 0) else (some false)
theorem impl_each.mono_l : ∀ k, (∀ y0 y1 y2 y3 y4, LeO (impl_each.l0 k y0 y1 y2 y3 y4) (impl_each.l0 (k + 1) y0 y1 y2 y3 y4))
  | 0 => fun _ _ _ _ _ r h => by simp [impl_each.l0] at h
  | k + 1 => by
    have ih0 := impl_each.mono_l k
    · intro y0 y1 y2 y3 y4
      unfold impl_each.l0
      repeat' first
      | (with_reducible exact ih0 _ _ _ _ _)
      | (with_reducible exact LeO.refl _)
      | (with_reducible exact LeO.none _)
      | (with_reducible refine LeO.ite ?_ ?_)
      | (with_reducible refine LeO.bind ?_ (fun _ => ?_))
      | exact ih0 _ _ _ _ _
      | exact LeO.none _
      | refine LeO.ite ?_ ?_
      | refine LeO.bind ?_ (fun _ => ?_)
theorem impl_each.mono : ∀ a0 a1 a2 a3 k, LeO (impl_each.f k a0 a1 a2 a3) (impl_each.f (k + 1) a0 a1 a2 a3) := by
  intro a0 a1 a2 a3 k
  have ih0 := impl_each.mono_l k
  unfold impl_each.f
  repeat' first
      | (with_reducible exact ih0 _ _ _ _ _)
      | (with_reducible exact LeO.refl _)
      | (with_reducible exact LeO.none _)
      | (with_reducible refine LeO.ite ?_ ?_)
      | (with_reducible refine LeO.bind ?_ (fun _ => ?_))
      | exact ih0 _ _ _ _ _
      | exact LeO.none _
      | refine LeO.ite ?_ ?_
      | refine LeO.bind ?_ (fun _ => ?_)
set_option maxHeartbeats 8000000 in
set_option maxRecDepth 100000 in
theorem impl_each.calls (k : Nat) (A0 : Option Addr) (c0 : Nat) (l0 : List Int) (a1 : Int) (a2 : Int) (a3 : Int) (r : Bool) (w : World) (hr0 : Kd.C (Kd.int .i64) w A0 l0.length l0) (hc0 : l0.length ≤ c0) (h : impl_each.f k l0 a1 a2 a3 = some r) :
    Calls Try.prog 56 #[.slice A0 l0.length c0, .int .i64 a1, .int .i64 a2, .int .i64 a3] w fun e w' => e = .returned (.bool r) ∧ Drawn0 w w' := by
  have HR0 := Aside0.mk hr0
  have HC0 := Aside0.mk hc0
  clear hr0 hc0
  have H : (if (l0.length : Int) = a1 then (impl_each.l0 k a2 a3 l0 (l0.length : Int) 0) else (some false)) = some r := h
  clear h
  by_cases c5 : (l0.length : Int) = a1
  · rw [if_pos c5] at H
    have c5b0 : ((l0.length : Int) == a1) = true := beq_iff_eq.mpr c5
    have c5b1 : ((l0.length : Int) != a1) = false := bne_eq_false_iff_eq.mpr c5
    clear c5
    have H' := Aside0.mk H
    clear H
    go_enter Try.func56, Try.ntmps56
    go_wp2
    go_loopg [17] k (fun kq v17 w' => ∃ (x17_1 : Int), v17 = .int .i64 x17_1 ∧ Aside0 (impl_each.l0 kq a2 a3 l0 (l0.length : Int) x17_1 = some r) ∧ Aside0 (kq ≤ k) ∧ Drawn0 w w')
    case atStart => exact ⟨(0), (by first | rfl | (simp; done) | (simp [*]; done)), H', ⟨Nat.le_refl _⟩, by repeat (first | exact Drawn0.refl _ | apply Drawn0.step)⟩
    case round =>
      clear H'
      try clear p2
      try clear c5
      try clear c5b0
      try clear c5b1
      obtain ⟨x17_1, rfl, HA, HK1, ⟨m1, rfl⟩⟩ := hrel
      cases gk with
      | zero => exact absurd HA.out (by simp [impl_each.l0])
      | succ k1 =>
        have H := HA.out
        clear HA
        simp only [impl_each.l0] at H
        by_cases c6 : x17_1 < (l0.length : Int)
        · rw [if_pos c6] at H
          have c6b0 : decide (x17_1 < (l0.length : Int)) = true := decide_eq_true c6
          clear c6
          by_cases c7 : 0 ≤ x17_1
          · rw [if_pos c7] at H
            have c7b0 : decide (0 ≤ x17_1) = true := decide_eq_true c7
            clear c7
            by_cases c8 : x17_1 < (l0.length : Int)
            · rw [if_pos c8] at H
              have c8b0 : decide (x17_1 < (l0.length : Int)) = true := decide_eq_true c8
              clear c8
              replace H := Option.bind_eq_some_iff.mp H
              obtain ⟨t123, A90, H⟩ := H
              replace H : (if t123 = true then (impl_each.l0 k1 a2 a3 l0 (l0.length : Int) (wrap64 (x17_1 + 1))) else (some false)) = some r := H
              have A9 := Aside0.mk A90
              clear A90
              by_cases c10 : t123 = true
              · subst c10
                have H1 : (impl_each.l0 k1 a2 a3 l0 (l0.length : Int) (wrap64 (x17_1 + 1))) = some r := by rw [if_pos rfl] at H; exact H
                clear H
                have H := H1
                clear H1
                have H' := Aside0.mk H
                clear H
                have p122 : 0 ≤ (x17_1 : Int) := of_decide_eq_true (by first | (with_reducible assumption) | assumption)
                have q122 : x17_1 < (l0.length : Int) := of_decide_eq_true (by first | (with_reducible assumption) | assumption)
                obtain ⟨ad122, e122, hx122_0⟩ := Kd.at_int HR0.out x17_1 p122 q122
                cases e122
                replace p122 := eq_true p122
                replace q122 := eq_true q122
                go_wp2_with (first | ((with_reducible refine gate_callee (f := 51) rfl ?_); refine goesL_ (some 24) rfl rfl Try.func51 (by kernel_rfl) rfl #[.int .i64 (rd l0 x17_1), .int .i64 a2, .int .i64 a3] rfl (by (try simp only [List.map_toArray, List.map_cons, List.map_nil]); first | done | rfl | (simp only [List.length_drop, List.length_take]; rfl)) ?_; (with_reducible refine (impl_in.calls (rd l0 x17_1) a2 a3 true _ A9.out).mono ?_); rintro e w' ⟨rfl, ⟨nd, rfl⟩⟩; refine ⟨_, rfl, ?_⟩))
                go_roundg k1
                case measure => have := HK1.out; omega
                case rel => exact ⟨(wrap64 (x17_1 + 1)), (by first | rfl | (simp; done) | (simp [*]; done)), H', ⟨by have := HK1.out; omega⟩, by repeat (first | exact Drawn0.refl _ | apply Drawn0.step)⟩
              · replace c10 := Bool.eq_false_iff.mpr c10
                subst c10
                have H1 : (some false) = some r := by rw [if_neg (show ¬ (false = true) by decide)] at H; exact H
                clear H
                have H := H1
                clear H1
                obtain rfl := Option.some.inj H
                have p122 : 0 ≤ (x17_1 : Int) := of_decide_eq_true (by first | (with_reducible assumption) | assumption)
                have q122 : x17_1 < (l0.length : Int) := of_decide_eq_true (by first | (with_reducible assumption) | assumption)
                obtain ⟨ad122, e122, hx122_0⟩ := Kd.at_int HR0.out x17_1 p122 q122
                cases e122
                replace p122 := eq_true p122
                replace q122 := eq_true q122
                go_wp2_with (first | ((with_reducible refine gate_callee (f := 51) rfl ?_); refine goesL_ (some 24) rfl rfl Try.func51 (by kernel_rfl) rfl #[.int .i64 (rd l0 x17_1), .int .i64 a2, .int .i64 a3] rfl (by (try simp only [List.map_toArray, List.map_cons, List.map_nil]); first | done | rfl | (simp only [List.length_drop, List.length_take]; rfl)) ?_; (with_reducible refine (impl_in.calls (rd l0 x17_1) a2 a3 false _ A9.out).mono ?_); rintro e w' ⟨rfl, ⟨nd, rfl⟩⟩; refine ⟨_, rfl, ?_⟩))
                go_ret
                exact ⟨by first | rfl | (simp; done) | (simp [*]; done), by repeat (first | exact Drawn0.refl _ | apply Drawn0.step)⟩
            · rw [if_neg c8] at H
              exact absurd H (by simp)
          · rw [if_neg c7] at H
            exact absurd H (by simp)
        · rw [if_neg c6] at H
          have c6b0 : decide (x17_1 < (l0.length : Int)) = false := decide_eq_false c6
          clear c6
          obtain rfl := Option.some.inj H
          go_wp2
          go_ret
          exact ⟨by first | rfl | (simp; done) | (simp [*]; done), by repeat (first | exact Drawn0.refl _ | apply Drawn0.step)⟩
  · rw [if_neg c5] at H
    have c5b0 : ((l0.length : Int) == a1) = false := beq_eq_false_iff_ne.mpr c5
    have c5b1 : ((l0.length : Int) != a1) = true := bne_iff_ne.mpr c5
    obtain rfl := Option.some.inj H
    go_enter Try.func56, Try.ntmps56
    go_wp2
    go_ret
    exact ⟨by first | rfl | (simp; done) | (simp [*]; done), by repeat (first | exact Drawn0.refl _ | apply Drawn0.step)⟩


def okB (l : List Int) : Bool := decide ((l.length : Int) ≥ 1) && (decide ((l.length : Int) ≤ 8) && l.all fun x => decide (-1000000 ≤ x) && decide (x ≤ 1000000))
theorem in_eq (a b c : Int) : impl_in.f a b c = some (decide (b ≤ a) && decide (a ≤ c)) := by
  unfold impl_in.f; by_cases q : a ≥ b
  · rw [if_pos q, decide_eq_true (show b ≤ a from q), Bool.true_and]
  · rw [if_neg q, decide_eq_false (show ¬ b ≤ a from q), Bool.false_and]
theorem rd_nat {xs : List Int} {i : Nat} (h : i < xs.length) : rd xs (i : Int) = xs[i] := by
  unfold rd; rw [Int.toNat_natCast, List.getD_eq_getElem?_getD, List.getElem?_eq_getElem h]; rfl
theorem each_l0 (xs : List Int) (hn : xs.length ≤ 1000) : ∀ (d k i : Nat), i + d = xs.length → d < k → impl_each.l0 k (-1000000) 1000000 xs (xs.length : Int) (i : Int) = some ((xs.drop i).all fun x => decide (-1000000 ≤ x) && decide (x ≤ 1000000)) := by
  intro d
  induction d with
  | zero =>
    intro k i hi' hk
    obtain ⟨k, rfl⟩ : ∃ m, k = m + 1 := ⟨k - 1, by omega⟩
    rw [List.drop_of_length_le (by omega)]
    simp only [impl_each.l0]
    rw [if_neg (by omega)]; rfl
  | succ d ih =>
    intro k i hi' hk
    obtain ⟨k, rfl⟩ : ∃ m, k = m + 1 := ⟨k - 1, by omega⟩
    have hlt : i < xs.length := by omega
    rw [List.drop_eq_getElem_cons hlt]
    simp only [impl_each.l0]
    rw [if_pos (by omega), if_pos (by omega), if_pos (by omega), rd_nat hlt, in_eq]
    simp only [Option.bind_some, List.all_cons]
    by_cases h : (decide (-1000000 ≤ xs[i]) && decide (xs[i] ≤ 1000000)) = true
    · rw [if_pos h, h, Bool.true_and, show wrap64 ((i : Int) + 1) = ((i + 1 : Nat) : Int) from by unfold wrap64; omega]
      exact ih k (i + 1) (by omega) (by omega)
    · rw [if_neg h, Bool.eq_false_iff.mpr h, Bool.false_and]
theorem each_eq (xs : List Int) (hn : xs.length ≤ 8) : impl_each.f 20 xs (xs.length : Int) (-1000000) 1000000 = some (xs.all fun x => decide (-1000000 ≤ x) && decide (x ≤ 1000000)) := by
  unfold impl_each.f
  rw [if_pos rfl]
  exact each_l0 xs (by omega) xs.length 20 0 (by omega) (by omega)
set_option maxHeartbeats 4000000 in
theorem okB_any (A0 : Option Addr) (c0 : Nat) (l0 : List Int) (w : World) (hr0 : Kd.C (Kd.int .i64) w A0 l0.length l0) (hc0 : l0.length ≤ c0) :
    Calls Try.prog 55 #[.slice A0 l0.length c0] w fun e w' => e = .returned (.bool (okB l0)) ∧ Drawn0 w w' := by
  obtain ⟨b, hb⟩ : ∃ b, (decide ((3 : Int) ≤ 4) && b) = b := ⟨true, rfl⟩
  have hm : (l0.length : Int) ≤ 9223372036854775807 := by have := hr0.2.1; omega
  by_cases c : 1 ≤ (l0.length : Int) ∧ (l0.length : Int) ≤ 8
  · have HIN := Aside0.mk (show impl_in.f (l0.length : Int) 1 8 = some true from by rw [in_eq, decide_eq_true c.1, decide_eq_true c.2]; rfl)
    have HEA := Aside0.mk (each_eq l0 (by omega))
    obtain ⟨r, hr⟩ : ∃ r, (l0.all fun x => decide (-1000000 ≤ x) && decide (x ≤ 1000000)) = r := ⟨_, rfl⟩
    have ho : okB l0 = r := by unfold okB; rw [decide_eq_true (show (l0.length : Int) ≥ 1 from c.1), decide_eq_true c.2, hr]; rfl
    rw [ho]
    have HE2 := Aside0.mk (HEA.out.trans (congrArg some hr))
    have HR0 := Aside0.mk hr0
    have HC0 := Aside0.mk hc0
    clear c hb ho hr hr0 hc0 HEA
    go_enter Try.func55, Try.ntmps55
    go_wp2_with (first | (go_at_call 51; (with_reducible refine (impl_in.calls _ _ _ true _ HIN.out).mono ?_); rintro e w9 ⟨rfl, ⟨nd, rfl⟩⟩) | (go_at_call 56; (with_reducible refine (impl_each.calls 20 _ _ l0 (l0.length : Int) (-1000000) 1000000 r _ (Kd.C_drewN HR0.out _) HC0.out HE2.out).mono ?_); rintro e w9 ⟨rfl, ⟨nd2, rfl⟩⟩))
    go_ret
    exact ⟨by first | rfl | (simp; done) | (simp [*]; done), by repeat (first | exact Drawn0.refl _ | apply Drawn0.step)⟩
  · have HIN := Aside0.mk (show impl_in.f (l0.length : Int) 1 8 = some false from by
      rw [in_eq, ← Bool.decide_and, decide_eq_false c])
    have ho : okB l0 = false := by
      unfold okB
      rw [← Bool.and_assoc, ← Bool.decide_and, decide_eq_false c, Bool.false_and]
    rw [ho]
    clear c hb ho hr0 hc0
    go_enter Try.func55, Try.ntmps55
    go_wp2_with (go_at_call 51; (with_reducible refine (impl_in.calls _ _ _ false _ HIN.out).mono ?_); rintro e w9 ⟨rfl, ⟨nd, rfl⟩⟩)
    go_ret
    exact ⟨by first | rfl | (simp; done) | (simp [*]; done), by repeat (first | exact Drawn0.refl _ | apply Drawn0.step)⟩

theorem okB_is (b : Bool) (A0 : Option Addr) (c0 : Nat) (l0 : List Int) (hb : okB l0 = b) (w : World) (hr0 : Kd.C (Kd.int .i64) w A0 l0.length l0) (hc0 : l0.length ≤ c0) :
    Calls Try.prog 55 #[.slice A0 l0.length c0] w fun e w' => e = .returned (.bool b) ∧ Drawn0 w w' := by subst hb; exact okB_any A0 c0 l0 w hr0 hc0
def sm (l : List Int) : Int := l.foldl (fun s x => wrap64 (s + x)) 0
theorem sm_snoc (l : List Int) (j : Nat) (h : j < l.length) : sm (l.take (j + 1)) = wrap64 (sm (l.take j) + rd l j) := by
  rw [List.take_succ_eq_append_getElem h, rd_nat h]
  unfold sm
  rw [List.foldl_append]
  rfl
def impl_Permuted.f (_ : Nat) (l0 l1 : List Int) : Option (Int × Int) :=
  if okB l0 = true then (if okB l1 = true then some (wrap64 (Ct (l0 ++ l1) (sm l0) l0.length 0 0).1, wrap64 (Ct (l0 ++ l1) (sm l0) l0.length 0 0).2) else some (0, 0)) else some (0, 0)
theorem impl_Permuted.mono : ∀ a0 a1 k, LeO (impl_Permuted.f k a0 a1) (impl_Permuted.f (k + 1) a0 a1) := fun _ _ _ => LeO.refl _
theorem okB_len {l : List Int} (h : okB l = true) : 1 ≤ l.length ∧ l.length ≤ 8 := by
  unfold okB at h
  simp only [Bool.and_eq_true, decide_eq_true_eq] at h
  omega
set_option maxHeartbeats 2000000 in
theorem perm_no1 (A0 : Option Addr) (c0 : Nat) (l0 : List Int) (A1 : Option Addr) (c1 : Nat) (l1 : List Int) (w : World) (hr0 : Kd.C (Kd.int .i64) w A0 l0.length l0) (hc0 : l0.length ≤ c0) (h0 : okB l0 = false) :
    Calls Try.prog 33 #[.slice A0 l0.length c0, .slice A1 l1.length c1] w fun e w' => e = .returned (.tuple #[.int .i64 0, .int .i64 0]) ∧ Below w.heap.size w w' := by
  have D0 := Aside0.mk (okB_is false A0 c0 l0 h0 w hr0 hc0)
  have HB := Aside0.mk (Below.refl w.heap.size w)
  clear hr0 hc0 h0
  go_enter Try.func33, Try.ntmps33
  go_wp2_with (go_at_call 55; (with_reducible refine D0.out.mono ?_); rintro e w9 ⟨rfl, ⟨nd, rfl⟩⟩)
  go_ret2
  exact ⟨rfl, by repeat (first | (with_reducible first | exact HB.out | apply below_alloc | apply pw_below_drewN | apply below_drew1) | exact HB.out)⟩
set_option maxHeartbeats 2000000 in
theorem perm_no2 (A0 : Option Addr) (c0 : Nat) (l0 : List Int) (A1 : Option Addr) (c1 : Nat) (l1 : List Int) (w : World) (hr0 : Kd.C (Kd.int .i64) w A0 l0.length l0) (hc0 : l0.length ≤ c0) (hr1 : Kd.C (Kd.int .i64) w A1 l1.length l1) (hc1 : l1.length ≤ c1) (h0 : okB l0 = true) (h1 : okB l1 = false) :
    Calls Try.prog 33 #[.slice A0 l0.length c0, .slice A1 l1.length c1] w fun e w' => e = .returned (.tuple #[.int .i64 0, .int .i64 0]) ∧ Below w.heap.size w w' := by
  have D0 := Aside0.mk (okB_is true A0 c0 l0 h0 w hr0 hc0)
  have D1 := Aside0.mk (fun n => okB_is false A1 c1 l1 h1 (w.drewN n) (Kd.C_drewN hr1 n) hc1)
  have HB := Aside0.mk (Below.refl w.heap.size w)
  have m0 := Aside0.mk trivial
  clear hr0 hc0 h0 hr1 hc1 h1
  go_enter Try.func33, Try.ntmps33
  go_wp2_with (go_at_call 55; first | ((with_reducible refine D0.out.mono ?_); rintro e w9 ⟨rfl, ⟨nd, rfl⟩⟩; clear D0) | ((with_reducible refine (D1.out _).mono ?_); rintro e w9 ⟨rfl, ⟨nd2, rfl⟩⟩))
  go_ret2
  exact ⟨rfl, by repeat (first | (with_reducible first | exact HB.out | apply below_alloc | apply pw_below_drewN | apply below_drew1) | exact HB.out)⟩
set_option maxHeartbeats 8000000 in
set_option maxRecDepth 100000 in
theorem perm_yes (A0 : Option Addr) (c0 : Nat) (l0 : List Int) (A1 : Option Addr) (c1 : Nat) (l1 : List Int) (w : World) (hr0 : Kd.C (Kd.int .i64) w A0 l0.length l0) (hc0 : l0.length ≤ c0) (hr1 : Kd.C (Kd.int .i64) w A1 l1.length l1) (hc1 : l1.length ≤ c1) (h0 : okB l0 = true) (h1 : okB l1 = true) :
    Calls Try.prog 33 #[.slice A0 l0.length c0, .slice A1 l1.length c1] w fun e w' => e = .returned (.tuple #[.int .i64 (wrap64 (Ct (l0 ++ l1) (sm l0) l0.length 0 0).1), .int .i64 (wrap64 (Ct (l0 ++ l1) (sm l0) l0.length 0 0).2)]) ∧ Below w.heap.size w w' := by
  have D0 := Aside0.mk (okB_is true A0 c0 l0 h0 w hr0 hc0)
  have D1 := Aside0.mk (fun n => okB_is true A1 c1 l1 h1 (w.drewN n) (Kd.C_drewN hr1 n) hc1)
  have L0 := Aside0.mk (okB_len h0)
  have L1 := Aside0.mk (okB_len h1)
  have HR0 := Aside0.mk hr0
  have HR1 := Aside0.mk hr1
  have HB := Aside0.mk (Below.refl w.heap.size w)
  have LM14 := Aside0.mk (show (([] : List Int).length + l0.length) * 8 ≤ 140737488355328 from by have := okB_len h0; simp; omega)
  have LM15 := Aside0.mk (show (([] ++ l0 : List Int).length + l1.length) * 8 ≤ 140737488355328 from by have := okB_len h0; have := okB_len h1; simp; omega)
  obtain ⟨T, hT⟩ : ∃ T, Ct (l0 ++ l1) (sm l0) l0.length 0 0 = T := ⟨_, rfl⟩
  rw [hT]
  have HT := Aside0.mk hT
  clear hT hr0 hc0 h0 hr1 hc1 h1
  go_enter Try.func33, Try.ntmps33
  go_upto_region 5 with (first
    | (go_at_call 55; first | ((with_reducible refine D0.out.mono ?_); rintro e w9 ⟨rfl, ⟨nd, rfl⟩⟩; clear D0) | ((with_reducible refine (D1.out _).mono ?_); rintro e w9 ⟨rfl, ⟨nd2, rfl⟩⟩; clear D1))
    | ((with_reducible refine gate_dst (N := 24) rfl ?_); (try (refine gate_guard (by rfl) ?_; dsimp only)); refine Kd.R_lit (Kd.int .i64) _ 2 ?hg (N := 24) ?hd (xs := ([] : List Int)) (inner := []) (ok := fun _ => True) (okp := fun _ => True) ?hr ?hp (fun _ hk => hk) trivial (Below.refl _ _) (Nat.le_refl _) (by simp) ?_; (case hd => rfl); (case hg => rfl); (case hr => first | (go_simp; done) | (go_simp; rfl)); (case hp => exact (Reps.none _ _)); intro v120 w17 ho18 hb hg_ hnew_; clear hg_ hnew_; have n0_ := Aside0.mk (Kd.R_lower ho18 (below_size (by repeat (first | (with_reducible first | exact HB.out | apply below_alloc | apply pw_below_drewN | apply below_drew1) | exact HB.out)))); have n1_ := Aside0.mk (below_step (by repeat (first | (with_reducible first | exact HB.out | apply below_alloc | apply pw_below_drewN | apply below_drew1) | exact HB.out)) hb); clear HB; have HO121 := n0_; have HB := n1_; clear n0_ n1_; clear hb ho18)
    | ((with_reducible refine gate_builtin (b := .append) (xs := #[.tmp 24, .tmp 25]) rfl ?_); (try (refine gate_guard (by rfl) ?_; dsimp only)); at_builtin; refine Kd.R_append_rows (Kd.int .i64) (w0 := w) w.heap.size rfl (.tmp 24) (.tmp 25) 29 2 (.int .i64 0) 8 rfl Try.underlying29 info2 rfl (by decide) (by omega) v120 [] l0 _ _ _ (fun _ => True) (fun _ => False) rfl rfl ?aO ?aR (fun _ _ h => h) (fun _ h => h.elim) ?aF ?aB ?aS ?aL ?_; (case aR => repeat (first | exact (Kd.C_below HR0.out HB.out) | (with_reducible refine Kd.C_alloc ?_ _) | (with_reducible refine Kd.C_drewN ?_ _) | (with_reducible refine Kd.C_drew ?_))); (case aB => exact (by repeat (first | (with_reducible first | exact HB.out | apply below_alloc | apply pw_below_drewN | apply below_drew1) | exact HB.out))); (case aF => exact (fun _ _ => trivial)); (case aO => exact (by (with_reducible repeat (first | apply Kd.R_alloc | apply Kd.R_drewN | apply Kd.R_drew)); exact HO121.out)); (case aS => exact (below_size (by repeat (first | (with_reducible first | exact HB.out | apply below_alloc | apply pw_below_drewN | apply below_drew1) | exact HB.out)))); (case aL => exact LM14.out); intro v123 w19 ho hb hg hat; have n0_ := Aside0.mk (hb); have n1_ := Aside0.mk (ho); clear HB; clear HO121; have HB := n0_; have HO124 := n1_; clear n0_ n1_; clear ho hb hg hat)
    | ((with_reducible refine gate_builtin (b := .append) (xs := #[.tmp 26, .tmp 27]) rfl ?_); (try (refine gate_guard (by rfl) ?_; dsimp only)); at_builtin; refine Kd.R_append_rows (Kd.int .i64) (w0 := w) w.heap.size rfl (.tmp 26) (.tmp 27) 29 2 (.int .i64 0) 8 rfl Try.underlying29 info2 rfl (by decide) (by omega) v123 ([] ++ l0) l1 _ _ _ (fun _ => True) (fun _ => False) rfl rfl ?aO ?aR (fun _ _ h => h) (fun _ h => h.elim) ?aF ?aB ?aS ?aL ?_; (case aR => repeat (first | exact (Kd.C_below HR1.out HB.out) | (with_reducible refine Kd.C_alloc ?_ _) | (with_reducible refine Kd.C_drewN ?_ _) | (with_reducible refine Kd.C_drew ?_))); (case aB => exact (by repeat (first | (with_reducible first | exact HB.out | apply below_alloc | apply pw_below_drewN | apply below_drew1) | exact HB.out))); (case aF => exact (fun _ _ => trivial)); (case aO => exact (by (with_reducible repeat (first | apply Kd.R_alloc | apply Kd.R_drewN | apply Kd.R_drew)); exact HO124.out)); (case aS => exact (below_size (by repeat (first | (with_reducible first | exact HB.out | apply below_alloc | apply pw_below_drewN | apply below_drew1) | exact HB.out)))); (case aL => exact LM15.out); intro v126 w1 ho hb hg hat; have n0_ := Aside0.mk (hb); have n1_ := Aside0.mk (ho); clear HB; clear HO124; have HB := n0_; have HO127 := n1_; clear n0_ n1_; clear ho hb hg hat; obtain ⟨AA, cap, eo21⟩ := Kd.R_slice HO127.out; subst eo21))
  have HLE := Aside0.mk (show (l0 ++ l1).length = l0.length + l1.length from List.length_append ..)
  have HC1 : Aside0 (Kd.C (Kd.int .i64) w1 AA (l0 ++ l1).length (l0 ++ l1)) := ⟨by have := (Kd.R_reads' HO127.out).2.2; simpa using this⟩
  clear HO127
  go_wp2
  go_loopw [31] (fun v wr => ∃ (j : Int), v = .int .i64 j ∧ Aside0 (0 ≤ j ∧ j ≤ (l0.length : Int)) ∧ Aside0 (Below w1.heap.size w1 wr) ∧ Aside0 (wr.heap[w1.heap.size]? = some (.cells #[.slice AA (l0 ++ l1).length cap] 29 (0, 0))) ∧ Aside0 (wr.heap[w1.heap.size + 1]? = some (.cells #[.int .i64 (sm (l0.take j.toNat))] 2 (0, 0)))) (fun v _ => l0.length - (intOf v).toNat)
  case atStart =>
    exact ⟨0, rfl, ⟨by omega⟩, ⟨((Below.refl _ _).alloc (Nat.le_refl _) _).alloc (by simp) _⟩, ⟨by rw [HLE.out]; exact blk_alloc (blk_new _ _) _⟩, ⟨by have := blk_new (w1.alloc (Obj.cells #[Value.slice AA (l0.length + l1.length) cap] 29)) (.cells #[.int .i64 0] 2); simpa [sm] using this⟩⟩
  case round =>
    obtain ⟨j, rfl, HJ, HBl, Ha, Hm⟩ := hrel
    by_cases c : j < (l0.length : Int)
    · have cb : decide (j < (l0.length : Int)) = true := decide_eq_true c
      obtain ⟨ad, e, hx⟩ := Kd.at_int (Kd.C_below (Kd.C_below HR0.out HB.out) HBl.out) j HJ.out.1 c
      cases e
      have p1 := eq_true HJ.out.1
      have p2 := eq_true c
      have cm := blk_cell Hm.out 0
      have fm := blk_frozen Hm.out 0
      have k1 := HJ.out.1
      have k2 : j ≤ 8 := by have := HJ.out.2; have := L0.out; omega
      have HC := Aside0.mk c
      clear c
      go_wp2
      go_roundw
      case measure => have := HC.out; simp [intOf]; omega
      case rel =>
        have hs := sm_snoc l0 j.toNat (by have := HC.out; omega)
        rw [show ((j.toNat : Nat) : Int) = j from by omega] at hs
        exact ⟨j + 1, rfl, ⟨by have := HC.out; omega⟩, ⟨below_set HBl.out (by omega)⟩, ⟨blk_far Ha.out (by simp) _⟩, ⟨by rw [show (j + 1).toNat = j.toNat + 1 from by omega, hs]; exact blk_put Hm.out 0 _ rfl⟩⟩
    · have cb : decide (j < (l0.length : Int)) = false := decide_eq_false c
      have hj : j.toNat = l0.length := by have := HJ.out; omega
      have Hm2 : Aside0 (wr.heap[w1.heap.size + 1]? = some (.cells #[.int .i64 (sm l0)] 2 (0, 0))) := ⟨by have := Hm.out; rwa [hj, List.take_length] at this⟩
      clear c Hm hj HJ
      go_upto_region 14 with (fail)
      have wz : wrap64 (0 : Int) = 0 := by unfold wrap64; omega
      have z1 := blk_lt Hm2.out
      have z2 := HBl.out.size
      have ap : Apart w1 (wr.heap.size + 1) (w1.heap.size + 1) wr.heap.size w1.heap.size (wr.heap.size + 1 + 1) := by constructor <;> omega
      have hi : Inv w1 (wr.heap.size + 1) (w1.heap.size + 1) wr.heap.size w1.heap.size (wr.heap.size + 1 + 1) (sm l0) AA cap (l0 ++ l1) 0 0
          (((wr.alloc (Obj.cells #[Value.int IntKind.i64 0] 2)).alloc (Obj.cells #[Value.int IntKind.i64 0] 2)).alloc (Obj.cells #[FC (wr.heap.size + 1) (w1.heap.size + 1) wr.heap.size w1.heap.size (wr.heap.size + 1 + 1)] 74)) := by
        refine ⟨below_alloc (below_alloc (below_alloc HBl.out _) _) _, ?_, blk_alloc (blk_alloc (blk_alloc Hm2.out _) _) _, ?_, blk_alloc (blk_alloc (blk_alloc Ha.out _) _) _, ?_⟩
        · have := blk_alloc (blk_new (wr.alloc (Obj.cells #[Value.int IntKind.i64 0] 2)) (Obj.cells #[Value.int IntKind.i64 0] 2)) (Obj.cells #[FC (wr.heap.size + 1) (w1.heap.size + 1) wr.heap.size w1.heap.size (wr.heap.size + 1 + 1)] 74)
          rw [World.size_alloc] at this
          rw [wz]
          exact this
        · rw [wz]; exact blk_alloc (blk_alloc (blk_new wr (Obj.cells #[Value.int IntKind.i64 0] 2)) _) _
        · have := blk_new ((wr.alloc (Obj.cells #[Value.int IntKind.i64 0] 2)).alloc (Obj.cells #[Value.int IntKind.i64 0] 2)) (Obj.cells #[FC (wr.heap.size + 1) (w1.heap.size + 1) wr.heap.size w1.heap.size (wr.heap.size + 1 + 1)] 74)
          rw [World.size_alloc, World.size_alloc] at this
          exact this
      unfold FC at hi
      have HI := Aside0.mk hi
      have AP := Aside0.mk ap
      have SZ := Aside0.mk z2
      clear wz z1 z2 ap hi Hm2 Ha HBl cb
      go_upto_region 15 with (go_at_call 57; (with_reducible refine (choose AP.out HC1.out (by rw [HLE.out]; have := L0.out; have := L1.out; omega) l0.length (l0.length : Int) 0 0 0 0 _ rfl (by have := L0.out; omega) (by omega) (by omega) HI.out).mono ?_); rintro e w2 ⟨rfl, hI⟩; have HI2 := Aside0.mk hI; clear hI HI)
      have cw := blk_cell HI2.out.cw 0
      have cn := blk_cell HI2.out.cn 0
      rw [HT.out, Int.zero_add] at cw cn
      go_quiet (fail)
      go_wp2
      go_ret2
      exact ⟨rfl, below_step HB.out (pw_below_drewN HI2.out.bel _)⟩

theorem impl_Permuted.calls (k : Nat) (A0 : Option Addr) (c0 : Nat) (l0 : List Int) (A1 : Option Addr) (c1 : Nat) (l1 : List Int) (r1 : Int) (r2 : Int) (w : World) (hr0 : Kd.C (Kd.int .i64) w A0 l0.length l0) (hc0 : l0.length ≤ c0) (hr1 : Kd.C (Kd.int .i64) w A1 l1.length l1) (hc1 : l1.length ≤ c1) (h : impl_Permuted.f k l0 l1 = some (r1, r2)) :
    Calls Try.prog 33 #[.slice A0 l0.length c0, .slice A1 l1.length c1] w fun e w' => e = .returned (.tuple #[.int .i64 r1, .int .i64 r2]) ∧ Below w.heap.size w w' := by
  unfold impl_Permuted.f at h
  by_cases h0 : okB l0 = true
  · rw [if_pos h0] at h
    by_cases h1 : okB l1 = true
    · rw [if_pos h1] at h
      simp only [Option.some.injEq, Prod.mk.injEq] at h
      obtain ⟨rfl, rfl⟩ := h
      exact perm_yes A0 c0 l0 A1 c1 l1 w hr0 hc0 hr1 hc1 h0 h1
    · rw [if_neg h1] at h
      simp only [Option.some.injEq, Prod.mk.injEq] at h
      obtain ⟨rfl, rfl⟩ := h
      exact perm_no2 A0 c0 l0 A1 c1 l1 w hr0 hc0 hr1 hc1 h0 (Bool.eq_false_iff.mpr h1)
  · rw [if_neg h0] at h
    simp only [Option.some.injEq, Prod.mk.injEq] at h
    obtain ⟨rfl, rfl⟩ := h
    exact perm_no1 A0 c0 l0 A1 c1 l1 w hr0 hc0 (Bool.eq_false_iff.mpr h0)

end Go.Proofs.Ytoghojneidpkkaa.PFnExactPermuted
