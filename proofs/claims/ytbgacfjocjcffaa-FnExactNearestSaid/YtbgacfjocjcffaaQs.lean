/-
  A region of the model that draws its order, walked once in the order of the text, where an operation may yield one of several values (a NaN's bits off the tape): whatever order is drawn, the walk's end holds.
  Conditions: the region's operations leave every world of a class within the class; no operation writes.
-/
import Derived.Deep.Quiet
namespace Go.Proofs.Ytbgacfjocjcffaa.Qs
open Go

section
variable {P : Program} {ops : Array Oper} {md : Region.Mode} {C : World → Prop} {T : FuncId → Array Value → Value → Prop}

/-- What an operation's run may come to: a value out of S, in a world of the class; a call: by the table T. -/
def Told (P : Program) (T : FuncId → Array Value → Value → Prop) (C : World → Prop) (S : Value → Prop) : Result Next → Prop
  | .ok (.value u) w' => C w' ∧ S u
  | .ok .skip w' => C w' ∧ S undef
  | .ok (.enter f args) w' => C w' ∧ (∀ v, T f args v → S v) ∧ Calls P f args w' (fun e w'' => ∃ v, e = .returned v ∧ T f args v ∧ C w'')
  | _ => False

def May (P : Program) (T : FuncId → Array Value → Value → Prop) (C : World → Prop) (o : Oper) (a : Act) (S : Value → Prop) : Prop := ∀ w, C w → Told P T C S ((execOp a.eval o).run P w)

theorem Told.all {I : Type} [hI : Nonempty I] {S : I → Value → Prop} {r : Result Next} (h : ∀ i, Told P T C (S i) r) : Told P T C (fun v => ∀ i, S i v) r := by
  obtain ⟨i0⟩ := hI
  have h0 := h i0
  cases r with
  | halt x w' => exact h0
  | ok n w' =>
    cases n <;> first
      | exact h0
      | exact ⟨h0.1, fun i => (h i).2⟩
      | exact ⟨h0.1, fun v hv i => (h i).2.1 v hv, h0.2.2⟩

theorem Told.some_of {S : Value → Prop} {r : Result Next} (h : Told P T C S r) : ∃ v, S v := by
  cases r with
  | halt x w' => exact h.elim
  | ok n w' =>
    cases n <;> first
      | exact ⟨_, h.2⟩
      | exact h.elim
      | (obtain ⟨_, h2, h3⟩ := h; obtain ⟨e, w'', fr, ⟨v, _, hv, _⟩, _⟩ := h3 []; exact ⟨v, h2 v hv⟩)

/-- The walk in the order of the text. -/
def Lex (P : Program) (T : FuncId → Array Value → Value → Prop) (ops : Array Oper) (C : World → Prop) (Q : Act → Prop) : List Oper → Act → Prop
  | [], a => Q a
  | o :: rest, a => if Region.wanted o (yielded ops a.tmps) then ∃ S, May P T C o a S ∧ ∀ v, S v → Lex P T ops C Q rest (a.put o.dst v) else Lex P T ops C Q rest (a.put o.dst undef)

def Nth (P : Program) (T : FuncId → Array Value → Value → Prop) (ops : Array Oper) (C : World → Prop) (i : Nat) (K : Act → Prop) (a : Act) : Prop :=
  match ops[i]? with
  | none => K a
  | some o => if Region.wanted o (yielded ops a.tmps) then ∃ S, May P T C o a S ∧ ∀ v, S v → K (a.put o.dst v) else K (a.put o.dst undef)

theorem Nth.mono {i : Nat} {a : Act} {K K' : Act → Prop} (h : ∀ a, K a → K' a) (hh : Nth P T ops C i K a) : Nth P T ops C i K' a := by
  unfold Nth at *
  cases ho : ops[i]? with
  | none => rw [ho] at hh; exact h _ hh
  | some o =>
    rw [ho] at hh
    dsimp only at hh ⊢
    by_cases hw : Region.wanted o (yielded ops a.tmps) = true
    · rw [if_pos hw] at hh ⊢
      obtain ⟨S, h1, h2⟩ := hh
      exact ⟨S, h1, fun v hv => h _ (h2 v hv)⟩
    · rw [if_neg hw] at hh ⊢
      exact h _ hh

/-- Whatever order is picked from here on. -/
def Any (P : Program) (T : FuncId → Array Value → Value → Prop) (md : Region.Mode) (ops : Array Oper) (C : World → Prop) (Q : Act → Prop) : Nat → Array Bool → Act → Prop
  | 0, listed, a => Region.ready md ops listed = [] ∧ Q a
  | fuel + 1, listed, a =>
    (Region.ready md ops listed = [] → Q a) ∧
    ∀ i ∈ Region.ready md ops listed, Nth P T ops C i (Any P T md ops C Q fuel (listed.setIfInBounds i true)) a

theorem wp_of_may {o : Oper} {a : Act} {S : Value → Prop} {K' : Act → World → Prop} {Q' : Exit → Act → World → Prop} {w : World} (hC : C w) (h : May P T C o a S) (hk : ∀ v w', C w' → S v → K' (a.put o.dst v) w') : o.wp P a w K' Q' := by
  have h1 := h w hC
  unfold Oper.wp
  generalize (execOp a.eval o).run P w = r at *
  cases r with
  | halt x w' => exact h1.elim
  | ok n w' =>
    cases n <;> first
      | exact h1.elim
      | exact hk _ _ h1.1 h1.2
      | (obtain ⟨h2, h3, h4⟩ := h1; exact h4.mono fun e w'' ⟨v, he, hv, hw⟩ => by subst he; exact hk _ _ hw (h3 v hv))

theorem wpOp_of_nth {i : Nat} {a : Act} {K : Act → Prop} {K' : Act → World → Prop} {Q' : Exit → Act → World → Prop} {w : World} (hC : C w) (h : ∀ a w', C w' → K a → K' a w') (hh : Nth P T ops C i K a) : wpOp P ops Q' i K' a w := by
  unfold Nth at hh
  unfold wpOp
  cases ho : ops[i]? with
  | none => rw [ho] at hh; exact h _ _ hC hh
  | some o =>
    rw [ho] at hh
    dsimp only at hh ⊢
    by_cases hw : Region.wanted o (yielded ops a.tmps) = true
    · rw [if_pos hw] at hh ⊢
      obtain ⟨S, h1, h2⟩ := hh
      exact .inl (wp_of_may hC h1 fun v w' hw' hv => h _ _ hw' (h2 v hv))
    · rw [if_neg hw] at hh ⊢
      exact h _ _ hC hh

theorem wpAny_of {Q : Act → Prop} {Q' : Exit → Act → World → Prop} (hQ : ∀ a w, C w → Q a → Q' .normal a w) : ∀ (fuel : Nat) (listed : Array Bool) (a : Act) (w : World), C w →
    Any P T md ops C Q fuel listed a → wpAny P md ops Q' fuel listed a w
  | 0, _, _, _, hw, h => ⟨h.1, hQ _ _ hw h.2⟩
  | fuel + 1, _, _, _, hw, h => ⟨fun h0 => hQ _ _ hw (h.1 h0), fun i hi => wpOp_of_nth hw (fun a' w' hw' => wpAny_of hQ fuel _ a' w' hw') (h.2 i hi)⟩

/-- What operation 'o' may leave in its temporary, in state 'a'. -/
def Gives (P : Program) (T : FuncId → Array Value → Value → Prop) (ops : Array Oper) (C : World → Prop) (o : Oper) (S : Value → Prop) (a : Act) : Prop :=
  (Region.wanted o (yielded ops a.tmps) = true ∧ May P T C o a S) ∨ (Region.wanted o (yielded ops a.tmps) = false ∧ S = fun v => v = undef)

theorem Gives.some_of {o : Oper} {S : Value → Prop} {a : Act} (hC : ∃ w, C w) (h : Gives P T ops C o S a) : ∃ v, S v := by
  rcases h with ⟨_, h⟩ | ⟨_, rfl⟩
  · obtain ⟨w, hw⟩ := hC; exact (h w hw).some_of
  · exact ⟨undef, rfl⟩

theorem Gives.nth {i : Nat} {o : Oper} {S : Value → Prop} {a : Act} (hi : ops[i]? = some o) (hy : Gives P T ops C o S a) {K : Act → Prop} (h : ∀ v, S v → K (a.put o.dst v)) : Nth P T ops C i K a := by
  unfold Nth
  rw [hi]
  dsimp only
  rcases hy with ⟨hw, hm⟩ | ⟨hw, rfl⟩
  · rw [if_pos hw]; exact ⟨S, hm, h⟩
  · rw [if_neg (by rw [hw]; exact Bool.false_ne_true)]; exact h _ rfl

theorem gives_of_nth {i : Nat} {o : Oper} {a : Act} {K : Act → Prop} (hi : ops[i]? = some o) (h : Nth P T ops C i K a) : ∃ S, Gives P T ops C o S a ∧ ∀ v, S v → K (a.put o.dst v) := by
  unfold Nth at h
  rw [hi] at h
  dsimp only at h
  by_cases hw : Region.wanted o (yielded ops a.tmps) = true
  · rw [if_pos hw] at h
    obtain ⟨S, h1, h2⟩ := h
    exact ⟨S, .inl ⟨hw, h1⟩, h2⟩
  · rw [if_neg hw] at h
    exact ⟨_, .inr ⟨by simpa using hw, rfl⟩, fun v hv => by subst hv; exact h⟩

theorem Gives.keep {o : Oper} {S : Value → Prop} {a a' : Act} (hy : Gives P T ops C o S a) (he : execOp a'.eval o = execOp a.eval o)
    (hw : Region.wanted o (yielded ops a'.tmps) = Region.wanted o (yielded ops a.tmps)) : Gives P T ops C o S a' := by
  unfold Gives May at *
  rw [he, hw]
  exact hy

/-- An operation apart from 'oi' does the same whether or not 'oi' has been carried out. -/
theorem nth_put {j : Nat} {oi oj : Oper} {S : Value → Prop} (hC : ∃ w, C w) (hj : ops[j]? = some oj) (hap : oi.apart ops oj = true)
    (hsi : ∀ cs b, oi.op ≠ .select cs b) (hsj : ∀ cs b, oj.op ≠ .select cs b) {K : Act → Prop} {a : Act}
    (hy : Gives P T ops C oi S a) (h : ∀ v, S v → Nth P T ops C j K (a.put oi.dst v)) :
    Nth P T ops C j (fun a' => Gives P T ops C oi S a' ∧ ∀ v, S v → K (a'.put oi.dst v)) a := by
  obtain ⟨h1, h2, h3⟩ := Oper.apart_spec hap
  obtain ⟨v0, hv0⟩ := hy.some_of hC
  have keep : ∀ u, Gives P T ops C oi S (a.put oj.dst u) := fun u => hy.keep (execOp_put oi hsi a oj.dst u h3) (wanted_put oi a oj.dst u h3)
  have hw' : ∀ v, Region.wanted oj (yielded ops (a.put oi.dst v).tmps) = Region.wanted oj (yielded ops a.tmps) := fun v => wanted_put oj a oi.dst v h1
  have he' : ∀ v, execOp (a.put oi.dst v).eval oj = execOp a.eval oj := fun v => execOp_put oj hsj a oi.dst v h1
  unfold Nth at *
  rw [hj] at h ⊢
  dsimp only at h ⊢
  by_cases hw : Region.wanted oj (yielded ops a.tmps) = true
  · rw [if_pos hw]
    have hh : ∀ v, S v → ∃ S', May P T C oj a S' ∧ ∀ u, S' u → K ((a.put oi.dst v).put oj.dst u) := fun v hv => by
      have := h v hv
      rw [hw' v, if_pos hw] at this
      obtain ⟨S', m, k⟩ := this
      refine ⟨S', ?_, k⟩
      unfold May at m ⊢
      rw [he' v] at m
      exact m
    haveI : Nonempty { v // S v } := ⟨⟨v0, hv0⟩⟩
    refine ⟨fun u => ∀ i : { v // S v }, (hh i.1 i.2).choose u, fun w hc => Told.all fun i => (hh i.1 i.2).choose_spec.1 w hc, fun u hu => ⟨keep u, fun v hv => ?_⟩⟩
    rw [← Act.put_comm a v u h2]
    exact (hh v hv).choose_spec.2 u (hu ⟨v, hv⟩)
  · rw [if_neg hw]
    refine ⟨keep _, fun v hv => ?_⟩
    have := h v hv
    rw [hw' v, if_neg hw] at this
    rw [← Act.put_comm a v undef h2]
    exact this

theorem any_first (hC : ∃ w, C w) {Q : Act → Prop} {i : Nat} {oi : Oper} {S : Value → Prop} (hi : ops[i]? = some oi) (hsel : ∀ (j : Nat) (o : Oper) cs b, ops[j]? = some o → o.op ≠ .select cs b) :
    ∀ (fuel : Nat) (listed : Array Bool) (a : Act),
      (∀ j oj, ops[j]? = some oj → j ≠ i → listed.getD j true = false → (∀ e ∈ oj.after, Region.binds md e = true → e.on ≠ i) → oi.apart ops oj = true) →
      i ∈ Region.ready md ops listed → Gives P T ops C oi S a →
      (∀ v, S v → Any P T md ops C Q fuel (listed.setIfInBounds i true) (a.put oi.dst v)) → Any P T md ops C Q (fuel + 1) listed a := by
  intro fuel
  induction fuel with
  | zero =>
    intro listed a _ hr hy H
    obtain ⟨v0, hv0⟩ := hy.some_of hC
    refine ⟨fun h => (by rw [h] at hr; cases hr), fun j hj => ?_⟩
    by_cases hji : j = i
    · subst hji; exact hy.nth hi H
    · have := ready_mono hj hji
      rw [(H v0 hv0).1] at this
      cases this
  | succ fuel ih =>
    intro listed a hfree hr hy H
    refine ⟨fun h => (by rw [h] at hr; cases hr), fun j hj => ?_⟩
    by_cases hji : j = i
    · subst hji; exact hy.nth hi H
    · obtain ⟨hjun, oj, hoj, hall⟩ := mem_ready.1 hj
      have hnot : ∀ e ∈ oj.after, Region.binds md e = true → e.on ≠ i := fun e he hb heq => by
        have e1 := hall e he hb
        have e0 := (mem_ready.1 hr).1
        rw [heq] at e1
        rcases Nat.lt_or_ge i listed.size with h' | h'
        · simp [h'] at e0 e1; rw [e0] at e1; cases e1
        · simp [Array.getElem?_eq_none h'] at e1
      have h2 := nth_put hC hoj (hfree j oj hoj hji hjun hnot) (fun cs b => hsel i oi cs b hi) (fun cs b => hsel j oj cs b hoj) hy (fun v hv => (H v hv).2 j (ready_mono hj hji))
      have hfree' : ∀ k ok, ops[k]? = some ok → k ≠ i → (listed.setIfInBounds j true).getD k true = false →
          (∀ e ∈ ok.after, Region.binds md e = true → e.on ≠ i) → oi.apart ops ok = true := fun k ok hk hki hun hno => by
        refine hfree k ok hk hki ?_ hno
        by_cases hjk : j = k
        · subst hjk; exact hjun
        · rw [getD_set_ne true hjk] at hun; exact hun
      refine Nth.mono (fun a' h3 => ih (listed.setIfInBounds j true) a' hfree' (ready_mono hr (Ne.symm hji)) h3.1 (fun v hv => ?_)) h2
      rw [Array.setIfInBounds_comm _ _ hji]
      exact h3.2 v hv

theorem any_of_lex (hC : ∃ w, C w) {Q : Act → Prop} (hs : Region.noSelect ops = true) : ∀ (l : List Oper) (k : Nat) (listed : Array Bool) (a : Act), (∀ j, l[j]? = ops[k + j]?) →
    Region.lexFrom md ops l.length k listed = true → Lex P T ops C Q l a → Any P T md ops C Q l.length listed a
  | [], _, _, _, _, hB, h => ⟨by simpa [Region.lexFrom] using hB, h⟩
  | o :: l, k, listed, a, hl, hB, h => by
    have h0 : ops[k]? = some o := by simpa using (hl 0).symm
    simp only [List.length_cons, Region.lexFrom, Bool.and_eq_true] at hB
    obtain ⟨⟨hr, hf⟩, hB'⟩ := hB
    have hst : Nth P T ops C k (Lex P T ops C Q l) a := by unfold Nth; rw [h0]; exact h
    obtain ⟨S, hy, hK⟩ := gives_of_nth h0 hst
    exact any_first hC h0 (Region.noSelect_spec hs) l.length listed a (Region.free_spec h0 hf) (by simpa using hr) hy
      (fun v hv => any_of_lex hC hs l (k + 1) _ _ (fun j => by have := hl (j + 1); simpa [Nat.add_assoc, Nat.add_comm 1 j] using this) hB' (hK v hv))

/-- THE RULE: a region that draws, at the class 'w after some draws'. -/
theorem wp_draws {id : Nat} {Q : Exit → Act → World → Prop} {a : Act} {w : World} {l : List Oper} (T : FuncId → Array Value → Value → Prop) (hm : P.follows .mixedOrders = true) (hB : Region.lexB .any l.toArray = true)
    (h : Lex P T l.toArray (fun w' => ∃ n, w' = w.drewN n) (fun a' => ∀ n, Q .normal a' (w.drewN n)) l a) : (Code.region id l.toArray true).wp P Q a w := by
  simp only [Region.lexB, Bool.and_eq_true] at hB
  refine wp_region_any hm (wpAny_of (C := fun w' => ∃ n, w' = w.drewN n) (T := T) (Q := fun a' => ∀ n, Q .normal a' (w.drewN n)) (fun _ w' ⟨n, hw'⟩ h => by subst hw'; exact h n) _ _ _ _ ⟨1, rfl⟩ ?_)
  have := any_of_lex (P := P) (T := T) (md := .any) (ops := l.toArray) ⟨w, 0, rfl⟩ hB.1 l 0 (Array.replicate l.toArray.size false) a (by simp) (by simpa using hB.2) h
  simpa using this

theorem lex_nil {Q : Act → Prop} {a : Act} (h : Q a) : Lex P T ops C Q [] a := h
theorem lex_skip {Q : Act → Prop} {a : Act} {o : Oper} {rest : List Oper} (hw : Region.wanted o (yielded ops a.tmps) = false) (h : Lex P T ops C Q rest (a.put o.dst undef)) : Lex P T ops C Q (o :: rest) a := by
  unfold Lex; rw [if_neg (by rw [hw]; exact Bool.false_ne_true)]; exact h
theorem lex_may {Q : Act → Prop} {a : Act} {o : Oper} {rest : List Oper} (S : Value → Prop) (hw : Region.wanted o (yielded ops a.tmps) = true) (hm : May P T C o a S) (h : ∀ v, S v → Lex P T ops C Q rest (a.put o.dst v)) : Lex P T ops C Q (o :: rest) a := by
  unfold Lex; rw [if_pos hw]; exact ⟨S, hm, h⟩
/-- One value in every world, which stays as it is. -/
theorem lex_one {Q : Act → Prop} {a : Act} {o : Oper} {rest : List Oper} {v : Value} (hw : Region.wanted o (yielded ops a.tmps) = true) (hr : ∀ w, C w → (execOp a.eval o).run P w = .ok (.value v) w) (h : Lex P T ops C Q rest (a.put o.dst v)) : Lex P T ops C Q (o :: rest) a :=
  lex_may (fun u => u = v) hw (fun w hc => by rw [hr w hc]; exact ⟨hc, rfl⟩) (fun u hu => by subst hu; exact h)
end
end Go.Proofs.Ytbgacfjocjcffaa.Qs
