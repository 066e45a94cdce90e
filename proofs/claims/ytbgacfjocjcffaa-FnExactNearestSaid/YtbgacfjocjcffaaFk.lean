/-
  Float64 numbers with all NaNs made one ('can'): each operation of the model's, whatever bits the tape gives a NaN, is a plain function of what its operands are then ('fop', 'ford').
  Conditions: none; nothing of the program stands here.
-/
import Derived.Laws.FloatArith
import Derived.Deep.Draws
namespace Go.Proofs.Ytbgacfjocjcffaa.Fk
open Go

def nan (x : Nat) : Bool := (Ieee.double.read x).isNaN
def can (x : Nat) : Option Nat := if nan x then none else some x
def fop (op : BinOp) (a b : Option Nat) : Option Nat := a.bind fun x => b.bind fun y => floatBits op .f64 x y
def ford (a b : Option Nat) : Option Ordering := a.bind fun x => b.bind fun y => Ieee.double.order x y

theorem fmt64 : FloatKind.f64.format = Ieee.double := rfl
theorem signWeight64 : Ieee.double.signWeight = 9223372036854775808 := by decide
theorem infRung64 : Ieee.double.infRung = 9218868437227405312 := by decide
theorem binade64 : Ieee.double.binade = 4503599627370496 := by decide
theorem least64 : Ieee.double.leastPlace = -1074 := by decide

theorem nan_iff (x : Nat) : nan x = decide (9218868437227405312 < x % 9223372036854775808) := by
  unfold nan Ieee.Format.read
  dsimp only
  rw [signWeight64, infRung64, binade64]
  by_cases h1 : x % 9223372036854775808 < 4503599627370496
  · rw [if_pos h1, decide_eq_false (by omega)]; rfl
  · rw [if_neg h1]
    by_cases h2 : x % 9223372036854775808 < 9218868437227405312
    · rw [if_pos h2, decide_eq_false (by omega)]; rfl
    · rw [if_neg h2]
      by_cases h3 : x % 9223372036854775808 = 9218868437227405312
      · rw [if_pos h3, decide_eq_false (by omega)]; rfl
      · rw [if_neg h3, decide_eq_true (by omega)]; rfl

theorem nan_word (neg : Bool) (k : Nat) (h : k ≤ 9218868437227405312) : nan (Ieee.double.word neg k) = false := by
  rw [nan_iff]
  unfold Ieee.Format.word
  rw [signWeight64]
  cases neg
  · exact decide_eq_false (by simp only [Bool.false_eq_true, if_false]; omega)
  · exact decide_eq_false (by simp only [if_true]; omega)

theorem nan_nearest (neg : Bool) (mag : Nat) (place : Int) : nan (Ieee.double.nearest neg mag place) = false := by
  unfold Ieee.Format.nearest
  split
  · exact nan_word _ _ (by omega)
  · dsimp only
    exact nan_word _ _ (by rw [← infRung64]; exact Nat.min_le_right _ _)

theorem nan_write (d : Ieee.Datum) (h : d.isNaN = false) : nan (Ieee.double.write d) = false := by
  cases d with
  | number n m e => exact nan_nearest n m e
  | infinity s => exact nan_word s _ (by rw [infRung64]; exact Nat.le_refl _)
  | nan s t => cases h

theorem can_nan {x : Nat} (h : nan x = true) : can x = none := by unfold can; rw [if_pos h]
theorem can_real {x : Nat} (h : nan x = false) : can x = some x := by unfold can; rw [if_neg (by rw [h]; decide)]
theorem can_some {x y : Nat} (h : can x = some y) : x = y ∧ nan x = false := by
  unfold can at h
  split at h
  · cases h
  · rename_i h'; exact ⟨Option.some.inj h, by simpa using h'⟩
theorem can_none {x : Nat} (h : can x = none) : nan x = true := by
  unfold can at h
  split at h
  · assumption
  · cases h

theorem order_can (x y : Nat) : FloatKind.f64.format.order x y = ford (can x) (can y) := by
  rw [fmt64]
  unfold ford can nan
  cases hx : Ieee.double.read x <;> cases hy : Ieee.double.read y <;> simp [Ieee.Format.order, Ieee.Datum.isNaN, Ieee.Datum.order, hx, hy]

theorem bits_nan_left (op : BinOp) {x : Nat} (y : Nat) (h : nan x = true) : floatBits op .f64 x y = none := by
  unfold nan at h
  cases hx : Ieee.double.read x with
  | number s m e => rw [hx] at h; cases h
  | infinity s => rw [hx] at h; cases h
  | nan s t => cases op <;> simp [floatBits, fmt64, Ieee.Format.add, Ieee.Format.sub, Ieee.Format.mul, Ieee.Format.div, hx, Ieee.Datum.sum, Ieee.Datum.product, Ieee.Datum.quotient]
theorem bits_nan_right (op : BinOp) (x : Nat) {y : Nat} (h : nan y = true) : floatBits op .f64 x y = none := by
  unfold nan at h
  cases hy : Ieee.double.read y with
  | number s m e => rw [hy] at h; cases h
  | infinity s => rw [hy] at h; cases h
  | nan s t => cases op <;> cases hx : Ieee.double.read x <;> simp [floatBits, fmt64, Ieee.Format.add, Ieee.Format.sub, Ieee.Format.mul, Ieee.Format.div, hx, hy, Ieee.Datum.opposite, Ieee.Datum.sum, Ieee.Datum.product, Ieee.Datum.quotient]

theorem bits_can (op : BinOp) (x y : Nat) : floatBits op .f64 x y = fop op (can x) (can y) := by
  unfold fop
  cases hx : nan x with
  | true => rw [can_nan hx, bits_nan_left op y hx]; rfl
  | false =>
    rw [can_real hx]
    cases hy : nan y with
    | true => rw [can_nan hy, bits_nan_right op x hy]; rfl
    | false => rw [can_real hy]; rfl

theorem sum_real {d e r : Ieee.Datum} (h : d.sum e = some r) : r.isNaN = false := by
  cases d <;> cases e <;> simp only [Ieee.Datum.sum] at h <;> first
    | (cases h; done)
    | (cases h; rfl)
    | (split at h <;> first | (cases h; done) | (cases h; rfl))
theorem product_real {d e r : Ieee.Datum} (h : d.product e = some r) : r.isNaN = false := by
  cases d <;> cases e <;> simp only [Ieee.Datum.product] at h <;> first
    | (cases h; done)
    | (cases h; rfl)
    | (split at h <;> first | (cases h; done) | (cases h; rfl))
theorem quotient_real {k : Nat} {d e r : Ieee.Datum} (h : Ieee.Datum.quotient k d e = some r) : r.isNaN = false := by
  cases d <;> cases e <;> simp only [Ieee.Datum.quotient] at h <;> first
    | (cases h; done)
    | (cases h; rfl)
    | (split at h <;> first | (cases h; done) | (cases h; rfl) | (split at h <;> first | (cases h; done) | (cases h; rfl)))
theorem map_real {o : Option Ieee.Datum} {r : Nat} (hr : ∀ d, o = some d → d.isNaN = false) (h : o.map Ieee.double.write = some r) : can r = some r := by
  cases o with
  | none => cases h
  | some d => cases h; exact can_real (nan_write d (hr d rfl))
theorem bits_real {op : BinOp} {x y r : Nat} (h : floatBits op .f64 x y = some r) : can r = some r := by
  cases op <;> simp only [floatBits] at h <;> first
    | (cases h; done)
    | exact map_real (fun d hd => sum_real hd) h
    | exact map_real (fun d hd => product_real hd) h
    | exact map_real (fun d hd => quotient_real hd) h
theorem bits_lt {op : BinOp} {x y r : Nat} (h : floatBits op .f64 x y = some r) : r < 18446744073709551616 := by
  have := floatBits_wf h
  simpa [Lit.wf] using this

/-- The bits that the tape gives a NaN are a NaN's. -/
theorem nan_drawn (t : Nat) : nan (t % 2 * 2 ^ 63 + 0x7ff0000000000000 + 1 + t / 2 % (2 ^ 52 - 1)) = true := by
  rw [nan_iff]
  have h1 : t % 2 < 2 := Nat.mod_lt _ (by omega)
  have h2 : t / 2 % (2 ^ 52 - 1) < 2 ^ 52 - 1 := Nat.mod_lt _ (by decide)
  generalize t % 2 = a at *
  generalize t / 2 % (2 ^ 52 - 1) = b at *
  rcases (by omega : a = 0 ∨ a = 1) with rfl | rfl
  · exact decide_eq_true (by omega)
  · exact decide_eq_true (by omega)
theorem lt_drawn (t : Nat) : t % 2 * 2 ^ 63 + 0x7ff0000000000000 + 1 + t / 2 % (2 ^ 52 - 1) < 18446744073709551616 := by
  have h1 : t % 2 < 2 := Nat.mod_lt _ (by omega)
  have h2 : t / 2 % (2 ^ 52 - 1) < 2 ^ 52 - 1 := Nat.mod_lt _ (by decide)
  omega

def arith (op : BinOp) : Bool := match op with | .add | .sub | .mul | .quo => true | _ => false

/-- '+', '-', '*', '/' ON TWO float64 IN A RUN: some bits, the world after some draws; what they are with all NaNs made one is told. -/
theorem run_fop {P : Program} (w : World) {op : BinOp} (hop : arith op = true) (t : TypeId) (x y : Nat) :
    ∃ r n, (binOp op t (.float .f64 x) (.float .f64 y)).run P w = .ok (.float .f64 r) (w.drewN n) ∧ can r = fop op (can x) (can y) ∧ r < 18446744073709551616 := by
  cases h : floatBits op .f64 x y with
  | some r => exact ⟨r, 0, run_float_arith w op t .f64 x y r h, by rw [bits_real h, ← bits_can, h], bits_lt h⟩
  | none =>
    refine ⟨w.tape w.drawn (.nanBits .f64 x y) % 2 * 2 ^ 63 + 0x7ff0000000000000 + 1 + w.tape w.drawn (.nanBits .f64 x y) / 2 % (2 ^ 52 - 1), 1, ?run, ?_, ?_⟩
    case run =>
      cases op <;> simp only [arith, Bool.false_eq_true] at hop <;> simp only [floatBits] at h <;> simp [binOp, Op.floatArith, h, choose, Sem.run, Question.forced, Question.cut] <;> rfl
    · rw [← bits_can, h]; exact can_nan (nan_drawn _)
    · exact lt_drawn _

end Go.Proofs.Ytbgacfjocjcffaa.Fk
