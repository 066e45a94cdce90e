/-
  The walk's rules for '+', '-', '*', '/' on float64: in a region of one order, and in a region that draws its order.
  Conditions: none.
-/
import Derived.Tactics
import Derived.Test.YtbgacfjocjcffaaFk
import Derived.Test.YtbgacfjocjcffaaQs
namespace Go.Proofs.Ytbgacfjocjcffaa.Fw
open Go Go.Proofs.Ytbgacfjocjcffaa.Fk Go.Proofs.Ytbgacfjocjcffaa.Qs

section
variable {P : Program} {ops : Array Oper} {a : Act} {o : Oper} {rest : List Oper} {w : World}

theorem run_exec_fop {op : BinOp} {t : TypeId} {x y : Operand} {t2 : TypeId} (ho : o.op = .binOp op t x y t2) (hop : arith op = true) {b1 b2 : Nat} (h1 : a.eval x = .float .f64 b1) (h2 : a.eval y = .float .f64 b2) (w : World) :
    ∃ r n, (execOp a.eval o).run P w = .ok (.value (.float .f64 r)) (w.drewN n) ∧ can r = fop op (can b1) (can b2) ∧ r < 18446744073709551616 := by
  obtain ⟨r, n, hr, hc, hl⟩ := run_fop (P := P) w hop t b1 b2
  refine ⟨r, n, ?_, hc, hl⟩
  have hg : ∀ w', (eqGuard op t x y (.float .f64 b1) (.float .f64 b2)).run P w' = .ok () w' := fun w' => by
    cases op <;> simp only [arith, Bool.false_eq_true] at hop <;> simp [eqGuard]
  simp [execOp, ho, h1, h2, hg, hr]

/-- IN A REGION OF ONE ORDER. -/
theorem wpList_fop {Q : Exit → Act → World → Prop} {op : BinOp} {t : TypeId} {x y : Operand} {t2 : TypeId} (hw : Region.wanted o (yielded ops a.tmps) = true) (ho : o.op = .binOp op t x y t2) (hop : arith op = true) {b1 b2 : Nat} (h1 : a.eval x = .float .f64 b1) (h2 : a.eval y = .float .f64 b2)
    (h : ∀ r n, can r = fop op (can b1) (can b2) → r < 18446744073709551616 → wpList P ops Q rest (a.put o.dst (.float .f64 r)) (w.drewN n)) : wpList P ops Q (o :: rest) a w := by
  obtain ⟨r, n, hr, hc, hl⟩ := run_exec_fop (P := P) ho hop h1 h2 w
  refine wpList_step fun K hK => ?_
  rw [if_pos hw]
  unfold Oper.wp
  rw [hr, Oper.upon_value]
  exact hK _ _ (h r n hc hl)

/-- IN A REGION THAT DRAWS ITS ORDER. -/
theorem lex_fop {T : FuncId → Array Value → Value → Prop} {Q : Act → Prop} {op : BinOp} {t : TypeId} {x y : Operand} {t2 : TypeId} (hw : Region.wanted o (yielded ops a.tmps) = true) (ho : o.op = .binOp op t x y t2) (hop : arith op = true) {b1 b2 : Nat} (h1 : a.eval x = .float .f64 b1) (h2 : a.eval y = .float .f64 b2)
    (h : ∀ r, can r = fop op (can b1) (can b2) → r < 18446744073709551616 → Lex P T ops (fun w' => ∃ n, w' = w.drewN n) Q rest (a.put o.dst (.float .f64 r))) : Lex P T ops (fun w' => ∃ n, w' = w.drewN n) Q (o :: rest) a := by
  refine lex_may (fun v => ∃ r, v = .float .f64 r ∧ can r = fop op (can b1) (can b2) ∧ r < 18446744073709551616) hw ?_ (by rintro _ ⟨r, rfl, hc, hl⟩; exact h r hc hl)
  rintro _ ⟨n, rfl⟩
  obtain ⟨r, m, hr, hc, hl⟩ := run_exec_fop (P := P) ho hop h1 h2 (w.drewN n)
  rw [hr]
  exact ⟨⟨n + m, by rw [World.drewN_drewN]⟩, r, rfl, hc, hl⟩

theorem lex_move {T : FuncId → Array Value → Value → Prop} {Q : Act → Prop} {x : Operand} (hw : Region.wanted o (yielded ops a.tmps) = true) (ho : o.op = .move x ∨ o.op = .assign x)
    (h : Lex P T ops (fun w' => ∃ n, w' = w.drewN n) Q rest (a.put o.dst (a.eval x))) : Lex P T ops (fun w' => ∃ n, w' = w.drewN n) Q (o :: rest) a :=
  lex_one hw (fun w' _ => by rcases ho with ho | ho <;> simp [execOp, ho]) h
end
end Go.Proofs.Ytbgacfjocjcffaa.Fw
