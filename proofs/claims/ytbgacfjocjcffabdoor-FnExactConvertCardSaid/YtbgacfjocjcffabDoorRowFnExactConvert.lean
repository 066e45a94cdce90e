/-
  The statement 'FnExactConvert' of the seat, out of the contract of the law's function: the row opened, the walk's contract taken, the row shut.
  Conditions: none beyond the row's own.
-/
import Derived.Test.YtbgacfjocjcffabDoorCards
import Derived.Test.YtbgacfjocjcffabDoorTie
import Derived.Deep.DeepHandedRow
import Derived.OpenVars
import Derived.ChangeVars
import Derived.LaidLaws
import Derived.Test.YtbgacfjocjcffabDoorDe
import Derived.WalkKit
import Derived.ProofKit
import Derived.OpenShut
import Derived.ShutString
import Derived.ChangeOld
import Derived.Below
import Derived.SizedLaws
import Derived.ChangeArms
import Derived.Laws.Cover2
import Derived.Deep.Slices
import Derived.Deep.Fields
namespace Go.Proofs.YtbgacfjocjcffabDoor.fnExactConvertRow
open Go.ChangeShapes Go.WideShapes Go.ChangeAt Go.RowKit Go.Deep
open Go.ChangeMaps (open_string shut_string)
set_option linter.unusedVariables false
theorem own : ownKnob Tryd.prog.godebug = none := by kernel_rfl
theorem laidOut : laidOutB Tryd.prog = true := by kernel_rfl
theorem trod_float {H : Type} {enc : TypeId × Value → H} {P : Program} {w : World} {base : Nat} {spare : Nat → Bool} {held : Bool} {fuel : Nat} {t : TypeId} {cs : List Value} {x : DataW H × List MemPlace} {k : FloatKind} (ht : P.underlying t = some (.float k)) (h : DataW.trod enc P w base spare held fuel t cs = some x) : ∃ n, cs = [.float k n] ∧ (Lit.float k n).wf = true := by
  cases fuel with
  | zero => simp [DataW.trod] at h
  | succ m =>
    match cs, h with
    | [], h => simp [DataW.trod, ht] at h
    | [v], h =>
      cases v <;> simp [DataW.trod, ht] at h
      rename_i k' b
      by_cases hk : k' = k
      · subst hk
        by_cases hw : (Lit.float k' b).wf = true
        · exact ⟨b, rfl, hw⟩
        · simp [hw] at h
      · simp [hk] at h
    | v :: u :: r, h => cases v <;> simp [DataW.trod, ht] at h
def IsRow (k : IntKind) (w : World) (a : Option Addr) (len cap : Nat) (zs : List Int) : Prop :=
  (a = none ∧ len = 0 ∧ cap = 0 ∧ zs = []) ∨
  ∃ x, a = some x ∧ len ≤ cap ∧ cap ≤ maxLen ∧ zs.length = cap ∧ (∀ i, i < zs.length → w.cell? (x.add i) = some (.int k (zs.getD i 0))) ∧ ∀ n ∈ zs, (Lit.int k n).wf = true
set_option maxRecDepth 100000 in
theorem contract (H : Type) (enc : TypeId × Value → H) (W : World) (base : Nat) (args : Array Value) (ds gs : List (DataW H)) (before : List MemPlace)
    (hval : ∀ (j : Nat) t v, Tryd.f7.params[j]? = some t → args[j]? = some v → Value.okWide Tryd.prog W .any base t v)
    (hW : DataW.Whole enc Tryd.prog Tryd.f7.params.toList Rows.fnExactConvertSpec.vars false W args.toList ds gs before) (hL : laidMetH Tryd.prog Rows.fnExactConvertRow.laid W) :
    Calls Tryd.prog 7 args W fun e W' => ∃ v, e = .returned v ∧ Rows.fnExactConvertSpec.post enc Tryd.prog Tryd.f7 false true false false W args v W' := by
  have hW' := hW
  obtain ⟨p, q, hA0, hV, rfl, hfz, hnd⟩ := hW
  have hA : DataW.TrodAll enc Tryd.prog W 0 (fun _ => true) true Tryd.f7.params.toList args.toList ds p := hA0
  rw [Tryd.params7] at hA hval
  obtain ⟨v0, vs0, d0, ds0, p0, q0, hargs, rfl, rfl, h0, r0⟩ := trodAll_cons hA
  obtain ⟨v1, vs1, d1, ds1, p1, q1, rfl, rfl, rfl, h1, r1⟩ := trodAll_cons r0
  obtain ⟨v2, vs2, d2, ds2, p2, q2, rfl, rfl, rfl, h2, r2⟩ := trodAll_cons r1
  obtain ⟨rfl, rfl, rfl⟩ := trodAll_nil r2
  obtain rfl : args = #[v0, v1, v2] := by cases args; simp_all
  have hVk : DataW.TrodVars enc Tryd.prog W (fun _ => true) Rows.fnExactConvertSpec.vars gs q := hV
  obtain ⟨g_, t_, cs_, f_, dv, pv, hgs, _, _, _, _, _⟩ := trodVars_one hV
  subst hgs
  obtain ⟨a0, rfl, rfl, rfl, x0⟩ := open_float Tryd.underlying22 (hval 0 22 v0 rfl rfl) h0
  have w0 : a0 < 18446744073709551616 := by simpa [Lit.wf] using x0
  obtain ⟨a1, rfl, rfl, rfl, w1⟩ := open_int Tryd.underlying2 (hval 1 2 v1 rfl rfl) h1
  obtain ⟨a2, rfl, rfl, rfl, w2⟩ := open_int Tryd.underlying2 (hval 2 2 v2 rfl rfl) h2
  clear hA0
  have hL2 : laidMet Tryd.prog [("loop.example/g00051/impl.units", Dv.utab Dc.units)] W := hL
  refine (Dc.law a0 w0 a1 a2 W (De.units_of hL2)).mono fun e W' ⟨he, bel⟩ => ?_
  subst he
  exact ⟨_, rfl, _, _, _, [], _, _, hW', trodAll_mk1 (shut_bool Tryd.underlying4 _), (trodAll_cons_mk (shut_float Tryd.underlying22 x0) (trodAll_cons_mk (shut_int Tryd.underlying2 w1) (trodAll_cons_mk (shut_int Tryd.underlying2 w2) trodAll_mk0))), (Below.trodVars laidOut bel (by kernel_rfl) hVk), bel.frame _, fun h => by cases h⟩

/-- A world for the witness: the settled one, the variables holding what their initialisers lay. -/
noncomputable def laidWorld (os : Os) : World :=
  { World.holding Tryd.prog os ⟨#[], #[], []⟩ with heap := ((World.holding Tryd.prog os ⟨#[], #[], []⟩).heap.modify 1 fun
      | .cells _ t frozen => .cells #[.int .i64 0, .float .f64 0, .float .f64 0, .int .i64 1, .float .f64 0, .float .f64 4607182418800017408, .int .i64 1, .float .f64 4643512921809643110, .float .f64 4607182418800017408, .int .i64 1, .float .f64 4646794216350647583, .float .f64 4603179219131243634, .int .i64 2, .float .f64 0, .float .f64 4607182418800017408, .int .i64 2, .float .f64 0, .float .f64 4602808923161882060, .int .i64 2, .float .f64 0, .float .f64 4598675619503873138, .int .i64 3, .float .f64 0, .float .f64 4607182418800017408, .int .i64 3, .float .f64 0, .float .f64 4629962737541415384, .int .i64 3, .float .f64 0, .float .f64 4608683126282248314, .int .i64 4, .float .f64 0, .float .f64 4607182418800017408, .int .i64 4, .float .f64 0, .float .f64 4599162408583596029, .int .i64 4, .float .f64 0, .float .f64 4655859997584916480, .int .i64 5, .float .f64 0, .float .f64 4607182418800017408, .int .i64 5, .float .f64 0, .float .f64 4627842682090579558] t frozen
      | o => o) }
theorem laid_met (os : Os) : laidMet Tryd.prog Rows.fnExactConvertRow.laid ((laidWorld os).forCall (fun _ _ => 0) ⟨#[], #[.float .f64 0, .int .i64 0, .int .i64 0], []⟩).memory :=
  laidMet_of_run' 8 (by kernel_rfl) (by kernel_rfl)
theorem reads (os : Os) {H : Type} (enc : TypeId × Value → H) : ∃ places, DataW.whole enc Tryd.prog ((laidWorld os).forCall (fun _ _ => 0) ⟨#[], #[.float .f64 0, .int .i64 0, .int .i64 0], []⟩).memory Tryd.f7.params.toList Rows.fnExactConvertSpec.vars false #[Value.float .f64 0, Value.int .i64 0, Value.int .i64 0].toList 8 = some ([.lit (.float .f64 0), .lit (.int .i64 0), .lit (.int .i64 0)], [Rows.laid_loop_example_g00051_impl_units], places) :=
  ⟨MemPlace.row ⟨1, 0, none⟩ 45 ++ [], by kernel_rfl⟩
set_option maxRecDepth 100000 in
theorem lifted (os : Os) (started : os.Started) (H : Type) (enc : TypeId × Value → H) (F : Stop.Interp) :
    ReturnsInHanded {} Tryd.checked os 7 .any ((OpenSpec.ofChange Rows.fnExactConvertSpec).preRow enc Tryd.prog Tryd.f7 Rows.fnExactConvertRow.domain false Rows.fnExactConvertRow.laid) (((OpenSpec.ofChange Rows.fnExactConvertSpec).at F).post enc Tryd.prog Tryd.f7 false true false false) := by
  obtain ⟨places, hx⟩ := reads os enc
  refine returnsInHanded_of_row (C := Tryd.checked) (s := OpenSpec.ofChange Rows.fnExactConvertSpec) own started (by kernel_rfl) Tryd.func7
    (witness_row_at (enc := enc) (C := Tryd.checked) false (laidWorld os) #[.float .f64 0, .int .i64 0, .int .i64 0] rfl (by kernel_rfl) (by kernel_rfl) (by kernel_rfl)
      (OpenSpec.preRow_of_cond 8 hx (by kernel_rfl) (fun k hk => by cases hk) (by kernel_rfl) (laid_met os))) ?_
  intro W base args ds gs before hval hW _ _ _ hL _ _
  exact contract H enc W base args ds gs before hval hW hL
theorem said : Rows.FnExactConvertSaid :=
  OpenClaim.holds_of_cond 7 Tryd.f7 rfl rfl rfl rfl rfl rfl rfl ⟨rfl, rfl, rfl, rfl, rfl⟩ rfl rfl rfl rfl rfl (by kernel_rfl) Tryd.func7 (by kernel_rfl)
    (of_decide_eq_true (by kernel_rfl)) (by unfold Func.isWrapper; first | (rw [if_pos (by decide +kernel)]; kernel_rfl) | (rw [if_neg (by decide +kernel)]; exact ⟨rfl, rfl⟩))
    (fun os started H enc _ F => by rw [OpenClaim.pre_eq_preRow]; exact lifted os started H enc F)
theorem plain (f : FuncId) (fn : Func) (hf : Tryd.pinned.checked.prog.funcNamed "loop.example/g00051/laws.FnExactConvert" = some f) (hfn : Tryd.pinned.checked.prog.funcs[f]? = some fn) :
    false = Tryd.pinned.checked.prog.looks [] ∧ ∀ (j : Nat) t, fn.params[j]? = some t → Tryd.pinned.checked.prog.wantsStandIn t = false := by
  obtain rfl : f = 7 := Option.some.inj ((show Tryd.prog.funcNamed "loop.example/g00051/laws.FnExactConvert" = some 7 by kernel_rfl).symm.trans hf) |>.symm
  obtain rfl : fn = Tryd.f7 := (Option.some.inj (Tryd.func7.symm.trans hfn)).symm
  refine ⟨by kernel_rfl, fun j t ht => ?_⟩
  rw [Tryd.params7] at ht
  have hm : t = 22 ∨ t = 2 := by simpa using Array.mem_of_getElem? ht
  rcases hm with rfl | rfl
  · exact (show Tryd.prog.wantsStandIn 22 = false by kernel_rfl)
  · exact (show Tryd.prog.wantsStandIn 2 = false by kernel_rfl)
/-- The card. -/
theorem card : Rows.FnExactConvertCardSaid :=
  Claim7.holds_tied_plain_at .later [] _ _ _ _ said (fun _ h => by cases h) (by kernel_rfl) (fun _ h => by cases h) fnExactConvert_row_tie rfl ⟨rfl, rfl⟩ (by kernel_rfl) rfl plain (by kernel_rfl)
#print axioms card
end Go.Proofs.YtbgacfjocjcffabDoor.fnExactConvertRow
namespace Go.Proofs.YtbgacfjocjcffabDoor
theorem fnExactConvert_holds : Rows.FnExactConvertCardSaid := fnExactConvertRow.card
end Go.Proofs.YtbgacfjocjcffabDoor
