/-
  The pure law of FnExactSkyOk: both sides tell the same; the two tables out of the row's list; the law's contract.
  Conditions: none.
-/
import Derived.Test.YtoghojneidpkkaaDoorQFnExactSkyOkx2
import Derived.Test.YtoghojneidpkkaaDoorRows
import Derived.SliceStrings
import Derived.LaidLaws
namespace Go.Proofs.YtoghojneidpkkaaDoor.PureFnExactSkyOk
open Go Go.RowKit Go.ChangeShapes Go.Proofs.YtoghojneidpkkaaDoor.PFnExactSkyOk Go.Proofs.YtoghojneidpkkaaDoorW.PrintWords Go.Proofs.YtoghojneidpkkaaDoorW.PrintLast Go.Proofs.YtoghojneidpkkaaDoorW.PrintMore

theorem bs_list (l : List UInt8) : (bs l).toList = l := by rw [ByteArray.toList_eq]; unfold bs; simp
theorem spec_in (a b c : Int) : spec_l2In.f a b c = some (inB a b c) := by
  unfold spec_l2In.f inB; by_cases q : a ≥ b
  · rw [if_pos q, decide_eq_true (show b ≤ a from q), Bool.true_and]
  · rw [if_neg q, decide_eq_false (show ¬ b ≤ a from q), Bool.false_and]
theorem has_w (s : ByteArray) : has wList s = (decide (s.toList = [78, 83, 87]) || (decide (s.toList = [82, 65]) || (decide (s.toList = [45, 82, 65]) || (decide (s.toList = [43, 82, 65]) || (decide (s.toList = [83, 78]) || (decide (s.toList = [45, 83, 78]) || (decide (s.toList = [43, 83, 78]) || (decide (s.toList = [84, 83, 82, 65]) || (decide (s.toList = [70, 71]) || (decide (s.toList = [66, 82]) || false)))))))))) := by
  unfold has wList
  simp only [List.any_cons, List.any_nil, bs_list]
theorem has_c (s : ByteArray) : has cList s = (decide (s.toList = [70, 69, 87]) || (decide (s.toList = [83, 67, 84]) || (decide (s.toList = [66, 75, 78]) || (decide (s.toList = [79, 86, 67]) || false)))) := by
  unfold has cList
  simp only [List.any_cons, List.any_nil, bs_list]
theorem wind (k : Nat) (a0 a1 a2 : Int) (a3 a4 : ByteArray) (a5 : Int) : spec_l21WindOk.f (k + 1) a0 a1 a2 a3 a4 a5 = some (windB a0 a1) := by
  unfold spec_l21WindOk.f windB
  simp only [spec_l21WindOk.j0]
  by_cases h : a0 = -1
  · rw [if_pos h, if_pos h, if_pos trivial]
  rw [if_neg h, if_neg h]
  by_cases h0 : a0 = 0
  · rw [if_pos h0, if_pos (beq_iff_eq.mpr h0)]
  rw [if_neg h0, if_neg (by rw [beq_eq_false_iff_ne.mpr h0]; decide), spec_in, spec_in]
  simp only [Option.bind_some]
  by_cases h1 : inB a0 1 36 = true
  · rw [if_pos h1, h1]; rfl
  · rw [if_neg h1, Bool.eq_false_iff.mpr h1]
    by_cases h9 : a0 = 99
    · rw [if_pos h9, beq_iff_eq.mpr h9]; rfl
    · rw [if_neg h9, beq_eq_false_iff_ne.mpr h9]; rfl
theorem weather (s : ByteArray) : spec_l21WeatherOk.f s = some (weatherB s) := by
  unfold spec_l21WeatherOk.f weatherB
  rw [has_w]
  by_cases e : s.toList = []
  · rw [if_pos e, List.isEmpty_iff.mpr e, Bool.true_or]
  rw [if_neg e, show s.toList.isEmpty = false from Bool.eq_false_iff.mpr (fun h => e (List.isEmpty_iff.mp h)), Bool.false_or]
  by_cases h0 : s.toList = [78, 83, 87]
  · rw [if_pos h0, decide_eq_true h0, Bool.true_or]
  rw [if_neg h0, decide_eq_false h0, Bool.false_or]
  by_cases h1 : s.toList = [82, 65]
  · rw [if_pos h1, decide_eq_true h1, Bool.true_or]
  rw [if_neg h1, decide_eq_false h1, Bool.false_or]
  by_cases h2 : s.toList = [45, 82, 65]
  · rw [if_pos h2, decide_eq_true h2, Bool.true_or]
  rw [if_neg h2, decide_eq_false h2, Bool.false_or]
  by_cases h3 : s.toList = [43, 82, 65]
  · rw [if_pos h3, decide_eq_true h3, Bool.true_or]
  rw [if_neg h3, decide_eq_false h3, Bool.false_or]
  by_cases h4 : s.toList = [83, 78]
  · rw [if_pos h4, decide_eq_true h4, Bool.true_or]
  rw [if_neg h4, decide_eq_false h4, Bool.false_or]
  by_cases h5 : s.toList = [45, 83, 78]
  · rw [if_pos h5, decide_eq_true h5, Bool.true_or]
  rw [if_neg h5, decide_eq_false h5, Bool.false_or]
  by_cases h6 : s.toList = [43, 83, 78]
  · rw [if_pos h6, decide_eq_true h6, Bool.true_or]
  rw [if_neg h6, decide_eq_false h6, Bool.false_or]
  by_cases h7 : s.toList = [84, 83, 82, 65]
  · rw [if_pos h7, decide_eq_true h7, Bool.true_or]
  rw [if_neg h7, decide_eq_false h7, Bool.false_or]
  by_cases h8 : s.toList = [70, 71]
  · rw [if_pos h8, decide_eq_true h8, Bool.true_or]
  rw [if_neg h8, decide_eq_false h8, Bool.false_or]
  by_cases h9 : s.toList = [66, 82]
  · rw [if_pos h9, decide_eq_true h9, Bool.true_or]
  rw [if_neg h9, decide_eq_false h9, Bool.false_or]
theorem cloud (k : Nat) (a0 a1 a2 : Int) (a3 a4 : ByteArray) (a5 : Int) : spec_l21CloudOk.f (k + 1) a0 a1 a2 a3 a4 a5 = some (coverB a4 a5) := by
  unfold spec_l21CloudOk.f coverB
  simp only [spec_l21CloudOk.j0, spec_in, Option.bind_some]
  rw [has_c]
  by_cases e : a4.toList = []
  · rw [if_pos e, if_pos (beq_iff_eq.mpr e), if_pos e]
  rw [if_neg e, if_neg e]
  by_cases e2 : a4.toList = [83, 75, 67]
  · rw [if_pos (beq_iff_eq.mpr e2), if_pos e2]
  rw [if_neg (by rw [beq_eq_false_iff_ne.mpr e2]; decide), if_neg e2]
  by_cases h0 : a4.toList = [70, 69, 87]
  · rw [if_pos h0, decide_eq_true h0, Bool.true_or, Bool.true_and]
  rw [if_neg h0, decide_eq_false h0, Bool.false_or]
  by_cases h1 : a4.toList = [83, 67, 84]
  · rw [if_pos h1, decide_eq_true h1, Bool.true_or, Bool.true_and]
  rw [if_neg h1, decide_eq_false h1, Bool.false_or]
  by_cases h2 : a4.toList = [66, 75, 78]
  · rw [if_pos h2, decide_eq_true h2, Bool.true_or, Bool.true_and]
  rw [if_neg h2, decide_eq_false h2, Bool.false_or]
  by_cases h3 : a4.toList = [79, 86, 67]
  · rw [if_pos h3, decide_eq_true h3, Bool.true_or, Bool.true_and]
  rw [if_neg h3, decide_eq_false h3, Bool.false_or]
  rfl
theorem same (a0 a1 a2 : Int) (a3 a4 : ByteArray) (a5 : Int) : spec_SkyOk.f 10 a0 a1 a2 a3 a4 a5 = impl_SkyOk.f 10 a0 a1 a2 a3 a4 a5 := by
  unfold spec_SkyOk.f impl_SkyOk.f
  rw [wind 9, spec_in, weather, cloud 9]
  simp only [Option.bind_some]
  cases windB a0 a1 <;> cases inB a2 (-1) 9999 <;> cases weatherB a3 <;> rfl
theorem told (a0 a1 a2 : Int) (a3 a4 : ByteArray) (a5 : Int) : laws_FnExactSkyOk.f 10 a0 a1 a2 a3 a4 a5 = some true := by
  unfold laws_FnExactSkyOk.f laws_szSky.f laws_toSky.f
  obtain ⟨b, hb⟩ : ∃ b, impl_SkyOk.f 10 a0 a1 a2 a3 a4 a5 = some b := ⟨_, rfl⟩
  have hs := (same a0 a1 a2 a3 a4 a5).trans hb
  by_cases h : (wrap64 (1048576 - (a3.size : Int))) < 0
  · rw [if_pos h]; rfl
  · rw [if_neg h]
    by_cases h2 : (wrap64 ((wrap64 (1048576 - (a3.size : Int))) - (a4.size : Int))) < 0
    · rw [if_pos h2]; rfl
    · rw [if_neg h2]
      simp only [Option.bind_some]
      rw [if_neg h2, hs]
      simp only [Option.bind_some]
      rw [hb]
      simp only [Option.bind_some, bne_self_eq_false, Bool.false_eq_true, if_false]
theorem law (a0 a1 a2 : Int) (a3 a4 : ByteArray) (a5 : Int) (w : World) (hg : Gl w) :
    Calls Tryd.prog 3 #[.agg #[.int .i64 a0, .int .i64 a1, .int .i64 a2, .string a3, .string a4, .int .i64 a5]] w fun e w' => e = .returned (.bool true) ∧ Below w.heap.size w w' :=
  laws_FnExactSkyOk.calls 10 a0 a1 a2 a3 a4 a5 true w hg (told a0 a1 a2 a3 a4 a5)
/-- A slice of strings that reads as listed. -/
theorem list_at {P : Program} {W : World} {t e : TypeId} {fuel : Nat} {cs : List Value} {l : List ByteArray} {p : List MemPlace} (hl : 0 < l.length) (ht : P.underlying t = some (.slice e)) (he : P.underlying e = some .string) (hc : P.cellsOf e = 1)
    (h : DataW.trod (fun _ => ()) P W 0 (fun _ => true) false fuel t cs = some (.slice (l.map fun s => .lit (.string s.data.toList)) [], p)) :
    ∃ a c, cs = [.slice (some a) l.length c] ∧ Kd.C Kd.string W (some a) l.length l ∧ l.length ≤ c := by
  rcases open_strings ht he hc h with ⟨_, hx⟩ | ⟨a, len, cap, ss, hcs, _, hlc, hm, hz, hx, hcell, hsz⟩
  · cases hx
  · simp only [Prod.mk.injEq, DataW.slice.injEq] at hx
    obtain ⟨⟨h1, h2⟩, _⟩ := hx
    have hd : ss.drop len = [] := by
      cases hq : ss.drop len with
      | nil => rfl
      | cons x y => rw [hq] at h2; cases h2
    have hlen : ss.length ≤ len := by
      have := congrArg List.length hd
      simp at this
      omega
    rw [List.take_of_length_le hlen] at h1
    have hss : ss = l := by
      have hm1 : ss.map (fun s => s.data.toList) = l.map (fun s => s.data.toList) := by
        have := congrArg (List.map fun d : DataW Unit => match d with | .lit (.string b) => b | _ => []) h1
        simpa [strs, List.map_map, Function.comp_def] using this.symm
      refine List.ext_getElem? fun i => ?_
      have := congrArg (·[i]?) hm1
      simp only [List.getElem?_map] at this
      cases h3 : ss[i]? <;> cases h4 : l[i]? <;> rw [h3, h4] at this <;> simp only [Option.map_none, Option.map_some] at this
      · cases this
      · cases this
      · exact congrArg some (WideShapes.bytes_inj (Option.some.inj this))
    subst hss
    have hz2 : ss.length = cap := by simpa using hz
    have : len = ss.length := by omega
    subst this
    refine ⟨a, cap, hcs, ⟨rfl, by have : maxLen ≤ 9223372036854775807 := by decide
                                  omega, fun _ => ⟨a, rfl, fun j q hj => ⟨[.string q], rfl, rfl, fun i u hu => ?_⟩⟩⟩, hlc⟩
    match i, hu with
    | 0, hu =>
      cases hu
      have hjl : j < ss.length := (List.getElem?_eq_some_iff.1 hj).1
      have hce := hcell j hjl
      rw [List.getD_eq_getElem?_getD, hj] at hce
      exact (congrArg (fun r => W.cell? (a.add r)) (by show j * 1 + 0 = j; omega)).trans hce
    | i + 1, hu => cases hu
theorem gl_of {W : World} (h : laidMet Tryd.prog Rows.fnExactSkyOkRow.laid W) : Gl W := by
  obtain ⟨ps, ⟨g, t, cs, fuel, p, q, hg, ht, hvar, hd, ⟨g', t', cs', fuel', p', q', hg', ht', hvar', hd', _, _⟩, _⟩, _⟩ := h
  obtain rfl := Option.some.inj ((show Tryd.prog.globalNamed "loop.example/g00051/impl.weathers" = some 0 by kernel_rfl).symm.trans hg)
  obtain rfl := Option.some.inj ((show Tryd.prog.globalNamed "loop.example/g00051/impl.covers" = some 1 by kernel_rfl).symm.trans hg')
  obtain rfl := Option.some.inj ((show (Tryd.prog.globals[0]?).map (·.type) = some 35 by kernel_rfl).symm.trans ht)
  obtain rfl := Option.some.inj ((show (Tryd.prog.globals[1]?).map (·.type) = some 35 by kernel_rfl).symm.trans ht')
  obtain ⟨a, c, e1, e2, e3⟩ := list_at (l := wList) (by decide) Tryd.underlying35 Tryd.underlying9 (by kernel_rfl) hd
  obtain ⟨a', c', e1', e2', e3'⟩ := list_at (l := cList) (by decide) Tryd.underlying35 Tryd.underlying9 (by kernel_rfl) hd'
  refine ⟨⟨some a, c, ?_, e2, e3⟩, ⟨some a', c', ?_, e2', e3'⟩⟩
  · have := World.var?_cell (show Tryd.prog.globalNamed "loop.example/g00051/impl.weathers" = some 0 by kernel_rfl) hvar 0
    rw [this, ← Array.getElem?_toList, e1]
    rfl
  · have := World.var?_cell (show Tryd.prog.globalNamed "loop.example/g00051/impl.covers" = some 1 by kernel_rfl) hvar' 0
    rw [this, ← Array.getElem?_toList, e1']
    rfl

end Go.Proofs.YtoghojneidpkkaaDoor.PureFnExactSkyOk
