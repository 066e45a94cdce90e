/-
  Contracts of functions that the law FnExactSkyOk reaches, as the kit's print tool wrote them, impl.SkyOk by hand.
  Conditions: none.
-/
import Derived.Test.YtoghojneidpkkaaDoorPFnExactSkyOkx0
import Derived.Test.YtoghojneidpkkaaDoorQFnExactSkyOkx1
namespace Go.Proofs.YtoghojneidpkkaaDoor.PFnExactSkyOk
open Go.RowKit Go.Proofs.YtoghojneidpkkaaDoorW.PrintWords Go.Proofs.YtoghojneidpkkaaDoorW.PrintLast Go.Proofs.YtoghojneidpkkaaDoorW.PrintMore
attribute [local go_sem] max2_int min2_int max_two min_two max_three min_three max_four min_four   -- for this text's walks alone
set_option linter.unusedVariables false
set_option linter.unusedSimpArgs false

/-! ### slices_Index_string_string: function 17 -/
def slices_Index_string_string.l0 : Nat → List ByteArray → ByteArray → Int → Int → Option (Int)
  | 0, _, _, _, _ => none
  | k + 1, x0, x1, x7, x8 => if x8 < x7 then (if 0 ≤ x8 then (if x8 < (x0.length : Int) then (if x1.toList = (rdOf ByteArray.empty x0 x8).toList then (some x8) else (slices_Index_string_string.l0 k x0 x1 x7 (wrap64 (x8 + 1)))) else (none)) else (none)) else (some (-1))
def slices_Index_string_string.f (k : Nat) (l0 : List ByteArray) (a1 : ByteArray) : Option (Int) := slices_Index_string_string.l0 k l0 a1 (l0.length : Int) 0
theorem slices_Index_string_string.mono_l : ∀ k, (∀ y0 y1 y2 y3, LeO (slices_Index_string_string.l0 k y0 y1 y2 y3) (slices_Index_string_string.l0 (k + 1) y0 y1 y2 y3))
  | 0 => fun _ _ _ _ r h => by simp [slices_Index_string_string.l0] at h
  | k + 1 => by
    have ih0 := slices_Index_string_string.mono_l k
    · intro y0 y1 y2 y3
      unfold slices_Index_string_string.l0
      repeat' first
      | (with_reducible exact ih0 _ _ _ _)
      | (with_reducible exact LeO.refl _)
      | (with_reducible exact LeO.none _)
      | (with_reducible refine LeO.ite ?_ ?_)
      | (with_reducible refine LeO.bind ?_ (fun _ => ?_))
      | exact ih0 _ _ _ _
      | exact LeO.none _
      | refine LeO.ite ?_ ?_
      | refine LeO.bind ?_ (fun _ => ?_)
theorem slices_Index_string_string.mono : ∀ a0 a1 k, LeO (slices_Index_string_string.f k a0 a1) (slices_Index_string_string.f (k + 1) a0 a1) := by
  intro a0 a1 k
  have ih0 := slices_Index_string_string.mono_l k
  unfold slices_Index_string_string.f
  repeat' first
      | (with_reducible exact ih0 _ _ _ _)
      | (with_reducible exact LeO.refl _)
      | (with_reducible exact LeO.none _)
      | (with_reducible refine LeO.ite ?_ ?_)
      | (with_reducible refine LeO.bind ?_ (fun _ => ?_))
      | exact ih0 _ _ _ _
      | exact LeO.none _
      | refine LeO.ite ?_ ?_
      | refine LeO.bind ?_ (fun _ => ?_)
set_option maxHeartbeats 8000000 in
set_option maxRecDepth 100000 in
theorem slices_Index_string_string.calls (k : Nat) (A0 : Option Addr) (c0 : Nat) (l0 : List ByteArray) (a1 : ByteArray) (r : Int) (w : World) (hr0 : Kd.C Kd.string w A0 l0.length l0) (hc0 : l0.length ≤ c0) (h : slices_Index_string_string.f k l0 a1 = some r) :
    Calls Tryd.prog 17 #[.slice A0 l0.length c0, .string a1] w fun e w' => e = .returned (.int .i64 r) ∧ Drawn0 w w' := by
  have HR0 := Aside0.mk hr0
  have HC0 := Aside0.mk hc0
  clear hr0 hc0
  have H : (slices_Index_string_string.l0 k l0 a1 (l0.length : Int) 0) = some r := h
  clear h
  have H' := Aside0.mk H
  clear H
  go_enter Tryd.func17, Tryd.ntmps17
  go_wp2
  go_loopg [8] k (fun kq v8 w' => ∃ (x8_1 : Int), v8 = .int .i64 x8_1 ∧ Aside0 (slices_Index_string_string.l0 kq l0 a1 (l0.length : Int) x8_1 = some r) ∧ Aside0 (kq ≤ k) ∧ Drawn0 w w')
  case atStart => exact ⟨(0), (by first | rfl | (simp; done) | (simp [*]; done)), H', ⟨Nat.le_refl _⟩, by repeat (first | exact Drawn0.refl _ | apply Drawn0.step)⟩
  case round =>
    clear H'
    try clear c1
    try clear p2
    obtain ⟨x8_1, rfl, HA, HK1, ⟨m1, rfl⟩⟩ := hrel
    cases gk with
    | zero => exact absurd HA.out (by simp [slices_Index_string_string.l0])
    | succ k1 =>
      have H := HA.out
      clear HA
      simp only [slices_Index_string_string.l0] at H
      by_cases c3 : x8_1 < (l0.length : Int)
      · rw [if_pos c3] at H
        have c3b0 : decide (x8_1 < (l0.length : Int)) = true := decide_eq_true c3
        clear c3
        by_cases c4 : 0 ≤ x8_1
        · rw [if_pos c4] at H
          have c4b0 : decide (0 ≤ x8_1) = true := decide_eq_true c4
          clear c4
          by_cases c5 : x8_1 < (l0.length : Int)
          · rw [if_pos c5] at H
            have c5b0 : decide (x8_1 < (l0.length : Int)) = true := decide_eq_true c5
            clear c5
            by_cases c6 : a1.toList = (rdOf ByteArray.empty l0 x8_1).toList
            · rw [if_pos c6] at H
              have c6b0 : (a1.toList == (rdOf ByteArray.empty l0 x8_1).toList) = true := beq_iff_eq.mpr c6
              have c6b1 : (a1.toList != (rdOf ByteArray.empty l0 x8_1).toList) = false := bne_eq_false_iff_eq.mpr c6
              clear c6
              obtain rfl := Option.some.inj H
              have p119 : 0 ≤ (x8_1 : Int) := of_decide_eq_true (by first | (with_reducible assumption) | assumption)
              have q119 : x8_1 < (l0.length : Int) := of_decide_eq_true (by first | (with_reducible assumption) | assumption)
              obtain ⟨ad119, e119, hx119_0⟩ := Kd.at_string HR0.out x8_1 p119 q119
              cases e119
              replace p119 := eq_true p119
              replace q119 := eq_true q119
              go_wp2
              go_ret
              exact ⟨by first | rfl | (simp; done) | (simp [*]; done), by repeat (first | exact Drawn0.refl _ | apply Drawn0.step)⟩
            · rw [if_neg c6] at H
              have c6b0 : (a1.toList == (rdOf ByteArray.empty l0 x8_1).toList) = false := beq_eq_false_iff_ne.mpr c6
              have c6b1 : (a1.toList != (rdOf ByteArray.empty l0 x8_1).toList) = true := bne_iff_ne.mpr c6
              have H' := Aside0.mk H
              clear H
              have p119 : 0 ≤ (x8_1 : Int) := of_decide_eq_true (by first | (with_reducible assumption) | assumption)
              have q119 : x8_1 < (l0.length : Int) := of_decide_eq_true (by first | (with_reducible assumption) | assumption)
              obtain ⟨ad119, e119, hx119_0⟩ := Kd.at_string HR0.out x8_1 p119 q119
              cases e119
              replace p119 := eq_true p119
              replace q119 := eq_true q119
              go_wp2
              go_roundg k1
              case measure => have := HK1.out; omega
              case rel => exact ⟨(wrap64 (x8_1 + 1)), (by first | rfl | (simp; done) | (simp [*]; done)), H', ⟨by have := HK1.out; omega⟩, by repeat (first | exact Drawn0.refl _ | apply Drawn0.step)⟩
          · rw [if_neg c5] at H
            exact absurd H (by simp)
        · rw [if_neg c4] at H
          exact absurd H (by simp)
      · rw [if_neg c3] at H
        have c3b0 : decide (x8_1 < (l0.length : Int)) = false := decide_eq_false c3
        clear c3
        obtain rfl := Option.some.inj H
        go_wp2
        go_ret
        exact ⟨by first | rfl | (simp; done) | (simp [*]; done), by repeat (first | exact Drawn0.refl _ | apply Drawn0.step)⟩

/-! ### slices_Contains_string_string: function 16 -/
def slices_Contains_string_string.f (k : Nat) (l0 : List ByteArray) (a1 : ByteArray) : Option (Bool) := (slices_Index_string_string.f k l0 a1).bind fun t120 => (some (decide (t120 ≥ 0)))
theorem slices_Contains_string_string.mono : ∀ a0 a1 k, LeO (slices_Contains_string_string.f k a0 a1) (slices_Contains_string_string.f (k + 1) a0 a1) := by
  intro a0 a1 k
  unfold slices_Contains_string_string.f
  repeat' first
      | (with_reducible exact slices_Index_string_string.mono _ _ _)
      | (with_reducible exact LeO.refl _)
      | (with_reducible exact LeO.none _)
      | (with_reducible refine LeO.ite ?_ ?_)
      | (with_reducible refine LeO.bind ?_ (fun _ => ?_))
      | exact slices_Index_string_string.mono _ _ _
      | exact LeO.none _
      | refine LeO.ite ?_ ?_
      | refine LeO.bind ?_ (fun _ => ?_)
set_option maxHeartbeats 8000000 in
set_option maxRecDepth 100000 in
theorem slices_Contains_string_string.calls (k : Nat) (A0 : Option Addr) (c0 : Nat) (l0 : List ByteArray) (a1 : ByteArray) (r : Bool) (w : World) (hr0 : Kd.C Kd.string w A0 l0.length l0) (hc0 : l0.length ≤ c0) (h : slices_Contains_string_string.f k l0 a1 = some r) :
    Calls Tryd.prog 16 #[.slice A0 l0.length c0, .string a1] w fun e w' => e = .returned (.bool r) ∧ Drawn0 w w' := by
  have HR0 := Aside0.mk hr0
  have HC0 := Aside0.mk hc0
  clear hr0 hc0
  have H : ((slices_Index_string_string.f k l0 a1).bind fun t120 => (some (decide (t120 ≥ 0)))) = some r := h
  clear h
  replace H := Option.bind_eq_some_iff.mp H
  obtain ⟨t120, A30, H⟩ := H
  replace H : (some (decide (t120 ≥ 0))) = some r := H
  have A3 := Aside0.mk A30
  clear A30
  obtain rfl := Option.some.inj H
  go_enter Tryd.func16, Tryd.ntmps16
  go_wp2_with (first | ((with_reducible refine gate_callee (f := 17) rfl ?_); refine goesL_ (some 7) rfl rfl Tryd.func17 (by kernel_rfl) rfl #[.slice A0 l0.length c0, .string a1] rfl (by (try simp only [List.map_toArray, List.map_cons, List.map_nil]); first | done | rfl | (simp only [List.length_drop, List.length_take]; rfl)) ?_; (with_reducible refine (slices_Index_string_string.calls k _ _ l0 a1 t120 _ ?side1 ?side2 A3.out).mono ?_); (case side1 => repeat (first | exact HR0.out | (with_reducible refine Kd.C_alloc ?_ _) | (with_reducible refine Kd.C_drewN ?_ _) | (with_reducible refine Kd.C_drew ?_))); (case side2 => exact HC0.out); rintro e w' ⟨rfl, ⟨nd, rfl⟩⟩; refine ⟨_, rfl, ?_⟩))
  go_ret
  exact ⟨by first | rfl | (simp; done) | (simp [*]; done), by repeat (first | exact Drawn0.refl _ | apply Drawn0.step)⟩


def bs (l : List UInt8) : ByteArray := ⟨l.toArray⟩
def wList : List ByteArray := [bs [78, 83, 87], bs [82, 65], bs [45, 82, 65], bs [43, 82, 65], bs [83, 78], bs [45, 83, 78], bs [43, 83, 78], bs [84, 83, 82, 65], bs [70, 71], bs [66, 82]]
def cList : List ByteArray := [bs [70, 69, 87], bs [83, 67, 84], bs [66, 75, 78], bs [79, 86, 67]]
/-- What the two package-level tables hold. -/
structure Gl (w : World) : Prop where
  w0 : ∃ A c, w.cell? ⟨0, 0, none⟩ = some (.slice A wList.length c) ∧ Kd.C Kd.string w A wList.length wList ∧ wList.length ≤ c
  c0 : ∃ A c, w.cell? ⟨1, 0, none⟩ = some (.slice A cList.length c) ∧ Kd.C Kd.string w A cList.length cList ∧ cList.length ≤ c
theorem Gl.below {w w' : World} (h : Gl w) (hb : Below w.heap.size w w') : Gl w' := by
  obtain ⟨⟨A, c, h1, h2, h3⟩, ⟨A', c', h1', h2', h3'⟩⟩ := h
  exact ⟨⟨A, c, (hb.cell (World.block_lt_of_cell? w _ h1)).trans h1, Kd.C_below h2 hb, h3⟩, ⟨A', c', (hb.cell (World.block_lt_of_cell? w _ h1')).trans h1', Kd.C_below h2' hb, h3'⟩⟩
def has (l : List ByteArray) (s : ByteArray) : Bool := l.any fun x => decide (s.toList = x.toList)
theorem idx (l : List ByteArray) (s : ByteArray) (hl : l.length ≤ 1000) : ∀ (d k i : Nat), i + d = l.length → d < k → ∃ n : Int, slices_Index_string_string.l0 k l s (l.length : Int) (i : Int) = some n ∧ decide (0 ≤ n) = has (l.drop i) s := by
  intro d
  induction d with
  | zero =>
    intro k i hi hk
    obtain ⟨k, rfl⟩ : ∃ m, k = m + 1 := ⟨k - 1, by omega⟩
    rw [List.drop_of_length_le (by omega)]
    simp only [slices_Index_string_string.l0]
    rw [if_neg (by omega)]
    exact ⟨-1, rfl, rfl⟩
  | succ d ih =>
    intro k i hi hk
    obtain ⟨k, rfl⟩ : ∃ m, k = m + 1 := ⟨k - 1, by omega⟩
    have hlt : i < l.length := by omega
    have hr : rdOf ByteArray.empty l (i : Int) = l[i] := by
      unfold rdOf; rw [Int.toNat_natCast, List.getD_eq_getElem?_getD, List.getElem?_eq_getElem hlt]; rfl
    rw [List.drop_eq_getElem_cons hlt]
    simp only [slices_Index_string_string.l0]
    rw [if_pos (by omega), if_pos (by omega), if_pos (by omega), hr]
    unfold has
    rw [List.any_cons]
    by_cases h : s.toList = l[i].toList
    · rw [if_pos h, decide_eq_true h, Bool.true_or]
      exact ⟨(i : Int), rfl, decide_eq_true (by omega)⟩
    · rw [if_neg h, decide_eq_false h, Bool.false_or, show wrap64 ((i : Int) + 1) = ((i + 1 : Nat) : Int) from by unfold wrap64; omega]
      exact ih k (i + 1) (by omega) (by omega)
theorem has_f (l : List ByteArray) (s : ByteArray) (hl : l.length ≤ 90) : slices_Contains_string_string.f 100 l s = some (has l s) := by
  obtain ⟨n, h1, h2⟩ := idx l s (by omega) l.length 100 0 (by omega) (by omega)
  unfold slices_Contains_string_string.f slices_Index_string_string.f
  rw [show (0 : Int) = ((0 : Nat) : Int) from rfl, h1, Option.bind_some]
  rw [List.drop_zero] at h2
  exact congrArg some h2
theorem contains_w (s : ByteArray) (b : Bool) (hb : has wList s = b) {w : World} {A : Option Addr} {c : Nat} (hr : Kd.C Kd.string w A wList.length wList) (hc : wList.length ≤ c) :
    Calls Tryd.prog 16 #[.slice A wList.length c, .string s] w fun e w' => e = .returned (.bool b) ∧ Drawn0 w w' := by
  subst hb
  exact slices_Contains_string_string.calls 100 A c wList s _ w hr hc (has_f wList s (by decide))
theorem contains_c (s : ByteArray) (b : Bool) (hb : has cList s = b) {w : World} {A : Option Addr} {c : Nat} (hr : Kd.C Kd.string w A cList.length cList) (hc : cList.length ≤ c) :
    Calls Tryd.prog 16 #[.slice A cList.length c, .string s] w fun e w' => e = .returned (.bool b) ∧ Drawn0 w w' := by
  subst hb
  exact slices_Contains_string_string.calls 100 A c cList s _ w hr hc (has_f cList s (by decide))
def inB (x a b : Int) : Bool := decide (a ≤ x) && decide (x ≤ b)
theorem in_eq (a b c : Int) : impl_in.f a b c = some (inB a b c) := by
  unfold impl_in.f inB; by_cases q : a ≥ b
  · rw [if_pos q, decide_eq_true (show b ≤ a from q), Bool.true_and]
  · rw [if_neg q, decide_eq_false (show ¬ b ≤ a from q), Bool.false_and]
theorem in_b (x a b : Int) (r : Bool) (h : inB x a b = r) (w : World) : Calls Tryd.prog 15 #[.int .i64 x, .int .i64 a, .int .i64 b] w fun e w' => e = .returned (.bool r) ∧ Drawn0 w w' := by
  subst h
  exact impl_in.calls x a b _ w (in_eq x a b)
def windB (dir speed : Int) : Bool := if dir = -1 then speed == 0 else if dir = 0 then speed == 0 else (inB dir 1 36 || dir == 99) && inB speed 1 99
def weatherB (s : ByteArray) : Bool := s.toList.isEmpty || has wList s
def coverB (s : ByteArray) (base : Int) : Bool := if s.toList = [] then base == 0 else if s.toList = [83, 75, 67] then base == 0 else has cList s && inB base 1 200
def impl_SkyOk.f (_ : Nat) (a0_0 : Int) (a0_1 : Int) (a0_2 : Int) (a0_3 : ByteArray) (a0_4 : ByteArray) (a0_5 : Int) : Option (Bool) :=
  some (windB a0_0 a0_1 && (inB a0_2 (-1) 9999 && (weatherB a0_3 && coverB a0_4 a0_5)))
theorem impl_SkyOk.mono : ∀ a0 a1 a2 a3 a4 a5 k, LeO (impl_SkyOk.f k a0 a1 a2 a3 a4 a5) (impl_SkyOk.f (k + 1) a0 a1 a2 a3 a4 a5) := fun _ _ _ _ _ _ _ => LeO.refl _
set_option maxHeartbeats 8000000 in
set_option maxRecDepth 100000 in
theorem impl_SkyOk.calls (k : Nat) (a0_0 : Int) (a0_1 : Int) (a0_2 : Int) (a0_3 : ByteArray) (a0_4 : ByteArray) (a0_5 : Int) (r : Bool) (w : World) (hg : Gl w) (h : impl_SkyOk.f k a0_0 a0_1 a0_2 a0_3 a0_4 a0_5 = some r) :
    Calls Tryd.prog 8 #[.agg #[.int .i64 a0_0, .int .i64 a0_1, .int .i64 a0_2, .string a0_3, .string a0_4, .int .i64 a0_5]] w fun e w' => e = .returned (.bool r) ∧ Below w.heap.size w w' := by
  have hu26 := Tryd.underlying26
  have HB := Aside0.mk (Below.refl w.heap.size w)
  have HR := Aside0.mk (Option.some.inj h)
  have HG := Aside0.mk hg
  clear h hg
  go_enter Tryd.func8, Tryd.ntmps8
  go_upto_block 0 with (first | ((with_reducible refine gate_dst (N := 1) rfl ?_); refine box_event ?hg (N := 1) ?hd (cs := #[.int .i64 a0_0, .int .i64 a0_1, .int .i64 a0_2, .string a0_3, .string a0_4, .int .i64 a0_5]) (t := 26) ?hr ?_; (case hd => rfl); (case hg => rfl); (case hr => first | (go_simp; done) | (go_simp; rfl)); intro gb106 hg w3 hbox hb; have n0_ := Aside0.mk (below_step (by repeat (first | (with_reducible first | exact HB.out | apply below_alloc | apply pw_below_drewN | apply below_drew1) | exact HB.out)) hb); have n1_ := Aside0.mk (hbox); have n2_ := Aside0.mk ((by rw [hg]; exact (below_size (by repeat (first | (with_reducible first | exact HB.out | apply below_alloc | apply pw_below_drewN | apply below_drew1) | exact HB.out))) : w.heap.size ≤ gb106)); have n3_ := Aside0.mk ((by rw [hg]; exact (below_size (by repeat (first | (with_reducible first | exact HB.out | apply below_alloc | apply pw_below_drewN | apply below_drew1) | exact HB.out))) : w.heap.size ≤ gb106)); clear HB; have HB := n0_; have BK106 := n1_; have GW106 := n2_; have GE106 := n3_; clear n0_ n1_ n2_ n3_; clear hb hbox hg; have hcz4_0 : w3.cell? ⟨gb106, 0, none⟩ = some (.int .i64 a0_0) := (blk_cell BK106.out 0).trans rfl; have hcz4_1 : w3.cell? ⟨gb106, 1, none⟩ = some (.int .i64 a0_1) := (blk_cell BK106.out 1).trans rfl; have hcz4_2 : w3.cell? ⟨gb106, 2, none⟩ = some (.int .i64 a0_2) := (blk_cell BK106.out 2).trans rfl; have hcz4_3 : w3.cell? ⟨gb106, 3, none⟩ = some (.string a0_3) := (blk_cell BK106.out 3).trans rfl; have hcz4_4 : w3.cell? ⟨gb106, 4, none⟩ = some (.string a0_4) := (blk_cell BK106.out 4).trans rfl; have hcz4_5 : w3.cell? ⟨gb106, 5, none⟩ = some (.int .i64 a0_5) := (blk_cell BK106.out 5).trans rfl; have hfz4_0 := blk_frozen BK106.out 0; have hfz4_1 := blk_frozen BK106.out 1; have hfz4_2 := blk_frozen BK106.out 2; have hfz4_3 := blk_frozen BK106.out 3; have hfz4_4 := blk_frozen BK106.out 4; have hfz4_5 := blk_frozen BK106.out 5))
  (try simp only [Act.put, List.setIfInBounds_toArray, List.set_cons_zero, List.set_cons_succ])
  go_cut [] (fun wc => Aside0 (windB a0_0 a0_1 = true) ∧ Aside0 (wc.heap[gb106]? = some (.cells #[.int .i64 a0_0, .int .i64 a0_1, .int .i64 a0_2, .string a0_3, .string a0_4, .int .i64 a0_5] 26 (0, 0))) ∧ Aside0 (Below w.heap.size w wc))
  case first =>
    by_cases d1 : a0_0 = -1
    · have d1a : (a0_0 == -1) = true := beq_iff_eq.mpr d1
      have d1b : (a0_0 != -1) = false := bne_eq_false_iff_eq.mpr d1
      by_cases s0 : a0_1 = 0
      · have hw : windB a0_0 a0_1 = true := by unfold windB; rw [if_pos d1, s0]; rfl
        have s0a : (a0_1 == 0) = true := beq_iff_eq.mpr s0
        have s0b : (a0_1 != 0) = false := bne_eq_false_iff_eq.mpr s0
        clear d1 s0
        go_wp2
        go_meet
        case rel => exact ⟨⟨hw⟩, ⟨by first | exact BK106.out | exact blk_drewN BK106.out _⟩, ⟨by repeat (first | (with_reducible first | exact HB.out | apply below_alloc | apply pw_below_drewN | apply below_drew1) | exact HB.out)⟩⟩
      · have hw : windB a0_0 a0_1 = false := by unfold windB; rw [if_pos d1]; exact beq_eq_false_iff_ne.mpr s0
        have s0a : (a0_1 == 0) = false := beq_eq_false_iff_ne.mpr s0
        have s0b : (a0_1 != 0) = true := bne_iff_ne.mpr s0
        clear d1 s0
        go_wp2
        go_ret
        exact ⟨by rw [← HR.out, hw]; first | rfl | simp, by repeat (first | (with_reducible first | exact HB.out | apply below_alloc | apply pw_below_drewN | apply below_drew1) | exact HB.out)⟩
    · have d1a : (a0_0 == -1) = false := beq_eq_false_iff_ne.mpr d1
      have d1b : (a0_0 != -1) = true := bne_iff_ne.mpr d1
      by_cases d2 : a0_0 = 0
      · have d2a : (a0_0 == 0) = true := beq_iff_eq.mpr d2
        have d2b : (a0_0 != 0) = false := bne_eq_false_iff_eq.mpr d2
        by_cases s0 : a0_1 = 0
        · have hw : windB a0_0 a0_1 = true := by unfold windB; rw [if_neg d1, if_pos d2, s0]; rfl
          have s0a : (a0_1 == 0) = true := beq_iff_eq.mpr s0
          have s0b : (a0_1 != 0) = false := bne_eq_false_iff_eq.mpr s0
          clear d1 d2 s0
          go_wp2
          go_meet
          case rel => exact ⟨⟨hw⟩, ⟨by first | exact BK106.out | exact blk_drewN BK106.out _⟩, ⟨by repeat (first | (with_reducible first | exact HB.out | apply below_alloc | apply pw_below_drewN | apply below_drew1) | exact HB.out)⟩⟩
        · have hw : windB a0_0 a0_1 = false := by unfold windB; rw [if_neg d1, if_pos d2]; exact beq_eq_false_iff_ne.mpr s0
          have s0a : (a0_1 == 0) = false := beq_eq_false_iff_ne.mpr s0
          have s0b : (a0_1 != 0) = true := bne_iff_ne.mpr s0
          clear d1 d2 s0
          go_wp2
          go_ret
          exact ⟨by rw [← HR.out, hw]; first | rfl | simp, by repeat (first | (with_reducible first | exact HB.out | apply below_alloc | apply pw_below_drewN | apply below_drew1) | exact HB.out)⟩
      · have d2a : (a0_0 == 0) = false := beq_eq_false_iff_ne.mpr d2
        have d2b : (a0_0 != 0) = true := bne_iff_ne.mpr d2
        have hw0 : windB a0_0 a0_1 = ((inB a0_0 1 36 || a0_0 == 99) && inB a0_1 1 99) := by unfold windB; rw [if_neg d1, if_neg d2]
        clear d1 d2
        cases hi : inB a0_0 1 36 <;> cases hs : inB a0_1 1 99 <;> cases h9 : (a0_0 == 99)
        · have hw : windB a0_0 a0_1 = false := by rw [hw0, hi, hs, h9]; rfl
          have HI := Aside0.mk hi
          have HS := Aside0.mk hs
          have h9b : (a0_0 != 99) = true := by unfold bne; rw [h9]; rfl
          have HW0 := Aside0.mk hw
          clear hw0 hi hs hw
          go_wp2_with (go_at_call 15; first | ((with_reducible refine (in_b _ _ _ _ HI.out _).mono ?_); rintro e w9 ⟨rfl, ⟨nd, rfl⟩⟩) | ((with_reducible refine (in_b _ _ _ _ HS.out _).mono ?_); rintro e w9 ⟨rfl, ⟨nd, rfl⟩⟩))
          have hw := HW0.out
          go_ret
          exact ⟨by rw [← HR.out, hw]; first | rfl | simp, by repeat (first | (with_reducible first | exact HB.out | apply below_alloc | apply pw_below_drewN | apply below_drew1) | exact HB.out)⟩
        · have hw : windB a0_0 a0_1 = false := by rw [hw0, hi, hs, h9]; rfl
          have HI := Aside0.mk hi
          have HS := Aside0.mk hs
          have h9b : (a0_0 != 99) = false := by unfold bne; rw [h9]; rfl
          have HW0 := Aside0.mk hw
          clear hw0 hi hs hw
          go_wp2_with (go_at_call 15; first | ((with_reducible refine (in_b _ _ _ _ HI.out _).mono ?_); rintro e w9 ⟨rfl, ⟨nd, rfl⟩⟩) | ((with_reducible refine (in_b _ _ _ _ HS.out _).mono ?_); rintro e w9 ⟨rfl, ⟨nd, rfl⟩⟩))
          have hw := HW0.out
          go_ret
          exact ⟨by rw [← HR.out, hw]; first | rfl | simp, by repeat (first | (with_reducible first | exact HB.out | apply below_alloc | apply pw_below_drewN | apply below_drew1) | exact HB.out)⟩
        · have hw : windB a0_0 a0_1 = false := by rw [hw0, hi, hs, h9]; rfl
          have HI := Aside0.mk hi
          have HS := Aside0.mk hs
          have h9b : (a0_0 != 99) = true := by unfold bne; rw [h9]; rfl
          have HW0 := Aside0.mk hw
          clear hw0 hi hs hw
          go_wp2_with (go_at_call 15; first | ((with_reducible refine (in_b _ _ _ _ HI.out _).mono ?_); rintro e w9 ⟨rfl, ⟨nd, rfl⟩⟩) | ((with_reducible refine (in_b _ _ _ _ HS.out _).mono ?_); rintro e w9 ⟨rfl, ⟨nd, rfl⟩⟩))
          have hw := HW0.out
          go_ret
          exact ⟨by rw [← HR.out, hw]; first | rfl | simp, by repeat (first | (with_reducible first | exact HB.out | apply below_alloc | apply pw_below_drewN | apply below_drew1) | exact HB.out)⟩
        · have hw : windB a0_0 a0_1 = true := by rw [hw0, hi, hs, h9]; rfl
          have HI := Aside0.mk hi
          have HS := Aside0.mk hs
          have h9b : (a0_0 != 99) = false := by unfold bne; rw [h9]; rfl
          have HW0 := Aside0.mk hw
          clear hw0 hi hs hw
          go_wp2_with (go_at_call 15; first | ((with_reducible refine (in_b _ _ _ _ HI.out _).mono ?_); rintro e w9 ⟨rfl, ⟨nd, rfl⟩⟩) | ((with_reducible refine (in_b _ _ _ _ HS.out _).mono ?_); rintro e w9 ⟨rfl, ⟨nd, rfl⟩⟩))
          have hw := HW0.out
          go_meet
          case rel => exact ⟨⟨hw⟩, ⟨by first | exact BK106.out | exact blk_drewN BK106.out _⟩, ⟨by repeat (first | (with_reducible first | exact HB.out | apply below_alloc | apply pw_below_drewN | apply below_drew1) | exact HB.out)⟩⟩
        · have hw : windB a0_0 a0_1 = false := by rw [hw0, hi, hs, h9]; rfl
          have HI := Aside0.mk hi
          have HS := Aside0.mk hs
          have h9b : (a0_0 != 99) = true := by unfold bne; rw [h9]; rfl
          have HW0 := Aside0.mk hw
          clear hw0 hi hs hw
          go_wp2_with (go_at_call 15; first | ((with_reducible refine (in_b _ _ _ _ HI.out _).mono ?_); rintro e w9 ⟨rfl, ⟨nd, rfl⟩⟩) | ((with_reducible refine (in_b _ _ _ _ HS.out _).mono ?_); rintro e w9 ⟨rfl, ⟨nd, rfl⟩⟩))
          have hw := HW0.out
          go_ret
          exact ⟨by rw [← HR.out, hw]; first | rfl | simp, by repeat (first | (with_reducible first | exact HB.out | apply below_alloc | apply pw_below_drewN | apply below_drew1) | exact HB.out)⟩
        · have hw : windB a0_0 a0_1 = false := by rw [hw0, hi, hs, h9]; rfl
          have HI := Aside0.mk hi
          have HS := Aside0.mk hs
          have h9b : (a0_0 != 99) = false := by unfold bne; rw [h9]; rfl
          have HW0 := Aside0.mk hw
          clear hw0 hi hs hw
          go_wp2_with (go_at_call 15; first | ((with_reducible refine (in_b _ _ _ _ HI.out _).mono ?_); rintro e w9 ⟨rfl, ⟨nd, rfl⟩⟩) | ((with_reducible refine (in_b _ _ _ _ HS.out _).mono ?_); rintro e w9 ⟨rfl, ⟨nd, rfl⟩⟩))
          have hw := HW0.out
          go_ret
          exact ⟨by rw [← HR.out, hw]; first | rfl | simp, by repeat (first | (with_reducible first | exact HB.out | apply below_alloc | apply pw_below_drewN | apply below_drew1) | exact HB.out)⟩
        · have hw : windB a0_0 a0_1 = true := by rw [hw0, hi, hs, h9]; rfl
          have HI := Aside0.mk hi
          have HS := Aside0.mk hs
          have h9b : (a0_0 != 99) = true := by unfold bne; rw [h9]; rfl
          have HW0 := Aside0.mk hw
          clear hw0 hi hs hw
          go_wp2_with (go_at_call 15; first | ((with_reducible refine (in_b _ _ _ _ HI.out _).mono ?_); rintro e w9 ⟨rfl, ⟨nd, rfl⟩⟩) | ((with_reducible refine (in_b _ _ _ _ HS.out _).mono ?_); rintro e w9 ⟨rfl, ⟨nd, rfl⟩⟩))
          have hw := HW0.out
          go_meet
          case rel => exact ⟨⟨hw⟩, ⟨by first | exact BK106.out | exact blk_drewN BK106.out _⟩, ⟨by repeat (first | (with_reducible first | exact HB.out | apply below_alloc | apply pw_below_drewN | apply below_drew1) | exact HB.out)⟩⟩
        · have hw : windB a0_0 a0_1 = true := by rw [hw0, hi, hs, h9]; rfl
          have HI := Aside0.mk hi
          have HS := Aside0.mk hs
          have h9b : (a0_0 != 99) = false := by unfold bne; rw [h9]; rfl
          have HW0 := Aside0.mk hw
          clear hw0 hi hs hw
          go_wp2_with (go_at_call 15; first | ((with_reducible refine (in_b _ _ _ _ HI.out _).mono ?_); rintro e w9 ⟨rfl, ⟨nd, rfl⟩⟩) | ((with_reducible refine (in_b _ _ _ _ HS.out _).mono ?_); rintro e w9 ⟨rfl, ⟨nd, rfl⟩⟩))
          have hw := HW0.out
          go_meet
          case rel => exact ⟨⟨hw⟩, ⟨by first | exact BK106.out | exact blk_drewN BK106.out _⟩, ⟨by repeat (first | (with_reducible first | exact HB.out | apply below_alloc | apply pw_below_drewN | apply below_drew1) | exact HB.out)⟩⟩
  case rest =>
    clear hcz4_0 hcz4_1 hcz4_2 hcz4_3 hcz4_4 hcz4_5 hfz4_0 hfz4_1 hfz4_2 hfz4_3 hfz4_4 hfz4_5
    obtain ⟨HW, BK106, HB⟩ := hcut
    have HR2 : Aside0 ((inB a0_2 (-1) 9999 && (weatherB a0_3 && coverB a0_4 a0_5)) = r) := ⟨by have q := HR.out; rw [HW.out, Bool.true_and] at q; exact q⟩
    clear HR HW
    have HR := HR2
    clear HR2
    have hcz_0 : wc.cell? ⟨gb106, 0, none⟩ = some (.int .i64 a0_0) := (blk_cell BK106.out 0).trans rfl
    have hcz_1 : wc.cell? ⟨gb106, 1, none⟩ = some (.int .i64 a0_1) := (blk_cell BK106.out 1).trans rfl
    have hcz_2 : wc.cell? ⟨gb106, 2, none⟩ = some (.int .i64 a0_2) := (blk_cell BK106.out 2).trans rfl
    have hcz_3 : wc.cell? ⟨gb106, 3, none⟩ = some (.string a0_3) := (blk_cell BK106.out 3).trans rfl
    have hcz_4 : wc.cell? ⟨gb106, 4, none⟩ = some (.string a0_4) := (blk_cell BK106.out 4).trans rfl
    have hcz_5 : wc.cell? ⟨gb106, 5, none⟩ = some (.int .i64 a0_5) := (blk_cell BK106.out 5).trans rfl
    obtain ⟨Aw, cw, g0, k0, e0⟩ := (HG.out.below HB.out).w0
    have K0 := Aside0.mk k0
    have E0 := Aside0.mk e0
    clear k0 e0
    go_upto_region 6 with (fail)
    go_cut [46] (fun v wc => ∃ b : Bool, v = .bool b ∧ Aside0 ((inB a0_2 (-1) 9999 && weatherB a0_3) = !b) ∧ Aside0 (wc.heap[gb106]? = some (.cells #[.int .i64 a0_0, .int .i64 a0_1, .int .i64 a0_2, .string a0_3, .string a0_4, .int .i64 a0_5] 26 (0, 0))) ∧ Aside0 (Below w.heap.size w wc))
    case first =>
      cases hv : inB a0_2 (-1) 9999 <;> cases hh : has wList a0_3 <;> cases he : a0_3.toList.isEmpty
      · have HV := Aside0.mk hv
        have HH := Aside0.mk hh
        have CE := Aside0.mk he
        have hw : (inB a0_2 (-1) 9999 && weatherB a0_3) = false := by unfold weatherB; rw [hv, hh, he]; rfl
        have HW0 := Aside0.mk hw
        clear hw hv hh he
        go_wp2_with (first | (go_at_call 15; (with_reducible refine (in_b _ _ _ _ HV.out _).mono ?_); rintro e w9 ⟨rfl, ⟨nd, rfl⟩⟩) | (go_at_call 16; (with_reducible refine (contains_w _ _ HH.out (Kd.C_drewN K0.out _) E0.out).mono ?_); rintro e w9 ⟨rfl, ⟨nd2, rfl⟩⟩))
        have hw := HW0.out
        go_meet
        case rel => exact ⟨true, (by first | rfl | (simp; done) | (simp; assumption)), ⟨hw⟩, ⟨by first | exact BK106.out | exact blk_drewN BK106.out _⟩, ⟨by repeat (first | (with_reducible first | exact HB.out | apply below_alloc | apply pw_below_drewN | apply below_drew1) | exact HB.out)⟩⟩
      · have HV := Aside0.mk hv
        have HH := Aside0.mk hh
        have CE := Aside0.mk he
        have hw : (inB a0_2 (-1) 9999 && weatherB a0_3) = false := by unfold weatherB; rw [hv, hh, he]; rfl
        have HW0 := Aside0.mk hw
        clear hw hv hh he
        go_wp2_with (first | (go_at_call 15; (with_reducible refine (in_b _ _ _ _ HV.out _).mono ?_); rintro e w9 ⟨rfl, ⟨nd, rfl⟩⟩) | (go_at_call 16; (with_reducible refine (contains_w _ _ HH.out (Kd.C_drewN K0.out _) E0.out).mono ?_); rintro e w9 ⟨rfl, ⟨nd2, rfl⟩⟩))
        have hw := HW0.out
        go_meet
        case rel => exact ⟨true, (by first | rfl | (simp; done) | (simp; assumption)), ⟨hw⟩, ⟨by first | exact BK106.out | exact blk_drewN BK106.out _⟩, ⟨by repeat (first | (with_reducible first | exact HB.out | apply below_alloc | apply pw_below_drewN | apply below_drew1) | exact HB.out)⟩⟩
      · have HV := Aside0.mk hv
        have HH := Aside0.mk hh
        have CE := Aside0.mk he
        have hw : (inB a0_2 (-1) 9999 && weatherB a0_3) = false := by unfold weatherB; rw [hv, hh, he]; rfl
        have HW0 := Aside0.mk hw
        clear hw hv hh he
        go_wp2_with (first | (go_at_call 15; (with_reducible refine (in_b _ _ _ _ HV.out _).mono ?_); rintro e w9 ⟨rfl, ⟨nd, rfl⟩⟩) | (go_at_call 16; (with_reducible refine (contains_w _ _ HH.out (Kd.C_drewN K0.out _) E0.out).mono ?_); rintro e w9 ⟨rfl, ⟨nd2, rfl⟩⟩))
        have hw := HW0.out
        go_meet
        case rel => exact ⟨true, (by first | rfl | (simp; done) | (simp; assumption)), ⟨hw⟩, ⟨by first | exact BK106.out | exact blk_drewN BK106.out _⟩, ⟨by repeat (first | (with_reducible first | exact HB.out | apply below_alloc | apply pw_below_drewN | apply below_drew1) | exact HB.out)⟩⟩
      · have HV := Aside0.mk hv
        have HH := Aside0.mk hh
        have CE := Aside0.mk he
        have hw : (inB a0_2 (-1) 9999 && weatherB a0_3) = false := by unfold weatherB; rw [hv, hh, he]; rfl
        have HW0 := Aside0.mk hw
        clear hw hv hh he
        go_wp2_with (first | (go_at_call 15; (with_reducible refine (in_b _ _ _ _ HV.out _).mono ?_); rintro e w9 ⟨rfl, ⟨nd, rfl⟩⟩) | (go_at_call 16; (with_reducible refine (contains_w _ _ HH.out (Kd.C_drewN K0.out _) E0.out).mono ?_); rintro e w9 ⟨rfl, ⟨nd2, rfl⟩⟩))
        have hw := HW0.out
        go_meet
        case rel => exact ⟨true, (by first | rfl | (simp; done) | (simp; assumption)), ⟨hw⟩, ⟨by first | exact BK106.out | exact blk_drewN BK106.out _⟩, ⟨by repeat (first | (with_reducible first | exact HB.out | apply below_alloc | apply pw_below_drewN | apply below_drew1) | exact HB.out)⟩⟩
      · have HV := Aside0.mk hv
        have HH := Aside0.mk hh
        have CE := Aside0.mk he
        have hw : (inB a0_2 (-1) 9999 && weatherB a0_3) = false := by unfold weatherB; rw [hv, hh, he]; rfl
        have HW0 := Aside0.mk hw
        clear hw hv hh he
        go_wp2_with (first | (go_at_call 15; (with_reducible refine (in_b _ _ _ _ HV.out _).mono ?_); rintro e w9 ⟨rfl, ⟨nd, rfl⟩⟩) | (go_at_call 16; (with_reducible refine (contains_w _ _ HH.out (Kd.C_drewN K0.out _) E0.out).mono ?_); rintro e w9 ⟨rfl, ⟨nd2, rfl⟩⟩))
        try any_goals (first | (exfalso; rename_i hh; exact absurd hh.1 (by rw [CE.out]; decide)) | (exfalso; rename_i hh; exact absurd (List.isEmpty_iff.mpr hh) (by rw [CE.out]; decide)) | (exfalso; rename_i hh; exact absurd (List.isEmpty_iff.mp CE.out) hh) | (exfalso; rename_i hh; exact absurd hh (by rw [CE.out]; decide)))
        have hw := HW0.out
        go_meet
        case rel => exact ⟨true, (by first | rfl | (simp; done) | (simp; assumption)), ⟨hw⟩, ⟨by first | exact BK106.out | exact blk_drewN BK106.out _⟩, ⟨by repeat (first | (with_reducible first | exact HB.out | apply below_alloc | apply pw_below_drewN | apply below_drew1) | exact HB.out)⟩⟩
      · have HV := Aside0.mk hv
        have HH := Aside0.mk hh
        have CE := Aside0.mk he
        have hw : (inB a0_2 (-1) 9999 && weatherB a0_3) = true := by unfold weatherB; rw [hv, hh, he]; rfl
        have HW0 := Aside0.mk hw
        clear hw hv hh he
        go_wp2_with (first | (go_at_call 15; (with_reducible refine (in_b _ _ _ _ HV.out _).mono ?_); rintro e w9 ⟨rfl, ⟨nd, rfl⟩⟩) | (go_at_call 16; (with_reducible refine (contains_w _ _ HH.out (Kd.C_drewN K0.out _) E0.out).mono ?_); rintro e w9 ⟨rfl, ⟨nd2, rfl⟩⟩))
        try any_goals (first | (exfalso; rename_i hh; exact absurd hh.1 (by rw [CE.out]; decide)) | (exfalso; rename_i hh; exact absurd (List.isEmpty_iff.mpr hh) (by rw [CE.out]; decide)) | (exfalso; rename_i hh; exact absurd (List.isEmpty_iff.mp CE.out) hh) | (exfalso; rename_i hh; exact absurd hh (by rw [CE.out]; decide)))
        have hw := HW0.out
        go_meet
        case rel => exact ⟨false, (by first | rfl | (simp; done) | (simp; assumption)), ⟨hw⟩, ⟨by first | exact BK106.out | exact blk_drewN BK106.out _⟩, ⟨by repeat (first | (with_reducible first | exact HB.out | apply below_alloc | apply pw_below_drewN | apply below_drew1) | exact HB.out)⟩⟩
      · have HV := Aside0.mk hv
        have HH := Aside0.mk hh
        have CE := Aside0.mk he
        have hw : (inB a0_2 (-1) 9999 && weatherB a0_3) = true := by unfold weatherB; rw [hv, hh, he]; rfl
        have HW0 := Aside0.mk hw
        clear hw hv hh he
        go_wp2_with (first | (go_at_call 15; (with_reducible refine (in_b _ _ _ _ HV.out _).mono ?_); rintro e w9 ⟨rfl, ⟨nd, rfl⟩⟩) | (go_at_call 16; (with_reducible refine (contains_w _ _ HH.out (Kd.C_drewN K0.out _) E0.out).mono ?_); rintro e w9 ⟨rfl, ⟨nd2, rfl⟩⟩))
        try any_goals (first | (exfalso; rename_i hh; exact absurd hh.1 (by rw [CE.out]; decide)) | (exfalso; rename_i hh; exact absurd (List.isEmpty_iff.mpr hh) (by rw [CE.out]; decide)) | (exfalso; rename_i hh; exact absurd (List.isEmpty_iff.mp CE.out) hh) | (exfalso; rename_i hh; exact absurd hh (by rw [CE.out]; decide)))
        have hw := HW0.out
        go_meet
        case rel => exact ⟨false, (by first | rfl | (simp; done) | (simp; assumption)), ⟨hw⟩, ⟨by first | exact BK106.out | exact blk_drewN BK106.out _⟩, ⟨by repeat (first | (with_reducible first | exact HB.out | apply below_alloc | apply pw_below_drewN | apply below_drew1) | exact HB.out)⟩⟩
      · have HV := Aside0.mk hv
        have HH := Aside0.mk hh
        have CE := Aside0.mk he
        have hw : (inB a0_2 (-1) 9999 && weatherB a0_3) = true := by unfold weatherB; rw [hv, hh, he]; rfl
        have HW0 := Aside0.mk hw
        clear hw hv hh he
        go_wp2_with (first | (go_at_call 15; (with_reducible refine (in_b _ _ _ _ HV.out _).mono ?_); rintro e w9 ⟨rfl, ⟨nd, rfl⟩⟩) | (go_at_call 16; (with_reducible refine (contains_w _ _ HH.out (Kd.C_drewN K0.out _) E0.out).mono ?_); rintro e w9 ⟨rfl, ⟨nd2, rfl⟩⟩))
        try any_goals (first | (exfalso; rename_i hh; exact absurd hh.1 (by rw [CE.out]; decide)) | (exfalso; rename_i hh; exact absurd (List.isEmpty_iff.mpr hh) (by rw [CE.out]; decide)) | (exfalso; rename_i hh; exact absurd (List.isEmpty_iff.mp CE.out) hh) | (exfalso; rename_i hh; exact absurd hh (by rw [CE.out]; decide)))
        have hw := HW0.out
        go_meet
        case rel => exact ⟨false, (by first | rfl | (simp; done) | (simp; assumption)), ⟨hw⟩, ⟨by first | exact BK106.out | exact blk_drewN BK106.out _⟩, ⟨by repeat (first | (with_reducible first | exact HB.out | apply below_alloc | apply pw_below_drewN | apply below_drew1) | exact HB.out)⟩⟩
    case rest =>
      clear hcz_0 hcz_1 hcz_2 hcz_3 hcz_4 hcz_5 g0 K0 E0
      obtain ⟨b, rfl, HW, BK106, HB⟩ := hcut
      cases b
      case true =>
        go_wp2
        go_ret
        exact ⟨by rw [← HR.out, ← Bool.and_assoc, HW.out]; rfl, by repeat (first | (with_reducible first | exact HB.out | apply below_alloc | apply pw_below_drewN | apply below_drew1) | exact HB.out)⟩
      have HR2 : Aside0 (coverB a0_4 a0_5 = r) := ⟨by have q := HR.out; rw [← Bool.and_assoc, HW.out] at q; exact q⟩
      clear HR HW
      have HR := HR2
      clear HR2
      have hcz_0 : wc.cell? ⟨gb106, 0, none⟩ = some (.int .i64 a0_0) := (blk_cell BK106.out 0).trans rfl
      have hcz_1 : wc.cell? ⟨gb106, 1, none⟩ = some (.int .i64 a0_1) := (blk_cell BK106.out 1).trans rfl
      have hcz_2 : wc.cell? ⟨gb106, 2, none⟩ = some (.int .i64 a0_2) := (blk_cell BK106.out 2).trans rfl
      have hcz_3 : wc.cell? ⟨gb106, 3, none⟩ = some (.string a0_3) := (blk_cell BK106.out 3).trans rfl
      have hcz_4 : wc.cell? ⟨gb106, 4, none⟩ = some (.string a0_4) := (blk_cell BK106.out 4).trans rfl
      have hcz_5 : wc.cell? ⟨gb106, 5, none⟩ = some (.int .i64 a0_5) := (blk_cell BK106.out 5).trans rfl
      obtain ⟨Ac, cc, g1, k1, e1⟩ := (HG.out.below HB.out).c0
      have K1 := Aside0.mk k1
      have E1 := Aside0.mk e1
      clear k1 e1
      cases hh : has cList a0_4 <;> cases hb : inB a0_5 1 200
      · have HH := Aside0.mk hh
        have HI := Aside0.mk hb
        clear hh hb
        by_cases ce : a0_4.toList = []
        · have CE := Aside0.mk (List.isEmpty_iff.mpr ce)
          have hr : r = (a0_5 == 0) := by rw [← HR.out]; unfold coverB; rw [if_pos ce]
          have HR3 := Aside0.mk hr
          clear hr ce
          go_wp2_with (first | (go_at_call 15; (with_reducible refine (in_b _ _ _ _ HI.out _).mono ?_); rintro e w9 ⟨rfl, ⟨nd, rfl⟩⟩) | (go_at_call 16; (with_reducible refine (contains_c _ _ HH.out K1.out E1.out).mono ?_); rintro e w9 ⟨rfl, ⟨nd2, rfl⟩⟩))
          try any_goals (first | (exfalso; rename_i hh; exact absurd hh.1 (by rw [CE.out]; decide)) | (exfalso; rename_i hh; exact absurd (List.isEmpty_iff.mpr hh) (by rw [CE.out]; decide)) | (exfalso; rename_i hh; exact absurd (List.isEmpty_iff.mp CE.out) hh) | (exfalso; rename_i hh; exact absurd hh (by rw [CE.out]; decide)) | (exfalso; rename_i hh; exact absurd (beq_iff_eq.mpr hh) (by rw [CA.out]; decide)) | (exfalso; rename_i hh; exact absurd (beq_iff_eq.mp CA.out) hh) | (exfalso; rename_i hh; exact absurd hh (by rw [CA.out]; decide)) | (exfalso; rename_i hh; exact absurd hh.2 (by rw [CA.out]; decide)) | (exfalso; rename_i hh; rw [CE.out, CA.out] at hh; revert hh; decide))
          all_goals (go_ret; exact ⟨by rw [HR3.out]; first | done | rfl, by repeat (first | (with_reducible first | exact HB.out | apply below_alloc | apply pw_below_drewN | apply below_drew1) | exact HB.out)⟩)
        · have CE : Aside0 (a0_4.toList.isEmpty = false) := ⟨Bool.eq_false_iff.mpr (fun h => ce (List.isEmpty_iff.mp h))⟩
          by_cases cs : a0_4.toList = [83, 75, 67]
          · have hr : r = (a0_5 == 0) := by rw [← HR.out]; unfold coverB; rw [if_neg ce, if_pos cs]
            have ca : (a0_4.toList == [83, 75, 67]) = true := beq_iff_eq.mpr cs
            have HR3 := Aside0.mk hr
            have CA := Aside0.mk ca
            clear hr ce cs ca
            go_wp2_with (first | (go_at_call 15; (with_reducible refine (in_b _ _ _ _ HI.out _).mono ?_); rintro e w9 ⟨rfl, ⟨nd, rfl⟩⟩) | (go_at_call 16; (with_reducible refine (contains_c _ _ HH.out K1.out E1.out).mono ?_); rintro e w9 ⟨rfl, ⟨nd2, rfl⟩⟩))
            try any_goals (first | (exfalso; rename_i hh; exact absurd hh.1 (by rw [CE.out]; decide)) | (exfalso; rename_i hh; exact absurd (List.isEmpty_iff.mpr hh) (by rw [CE.out]; decide)) | (exfalso; rename_i hh; exact absurd (List.isEmpty_iff.mp CE.out) hh) | (exfalso; rename_i hh; exact absurd hh (by rw [CE.out]; decide)) | (exfalso; rename_i hh; exact absurd (beq_iff_eq.mpr hh) (by rw [CA.out]; decide)) | (exfalso; rename_i hh; exact absurd (beq_iff_eq.mp CA.out) hh) | (exfalso; rename_i hh; exact absurd hh (by rw [CA.out]; decide)) | (exfalso; rename_i hh; exact absurd hh.2 (by rw [CA.out]; decide)) | (exfalso; rename_i hh; rw [CE.out, CA.out] at hh; revert hh; decide))
            all_goals (go_ret; exact ⟨by rw [HR3.out]; first | done | rfl, by repeat (first | (with_reducible first | exact HB.out | apply below_alloc | apply pw_below_drewN | apply below_drew1) | exact HB.out)⟩)
          · have hr : r = false := by rw [← HR.out]; unfold coverB; rw [if_neg ce, if_neg cs, HH.out, HI.out]; rfl
            have ca : (a0_4.toList == [83, 75, 67]) = false := beq_eq_false_iff_ne.mpr cs
            have HR3 := Aside0.mk hr
            have CA := Aside0.mk ca
            clear hr ce cs ca
            go_wp2_with (first | (go_at_call 15; (with_reducible refine (in_b _ _ _ _ HI.out _).mono ?_); rintro e w9 ⟨rfl, ⟨nd, rfl⟩⟩) | (go_at_call 16; (with_reducible refine (contains_c _ _ HH.out K1.out E1.out).mono ?_); rintro e w9 ⟨rfl, ⟨nd2, rfl⟩⟩))
            try any_goals (first | (exfalso; rename_i hh; exact absurd hh.1 (by rw [CE.out]; decide)) | (exfalso; rename_i hh; exact absurd (List.isEmpty_iff.mpr hh) (by rw [CE.out]; decide)) | (exfalso; rename_i hh; exact absurd (List.isEmpty_iff.mp CE.out) hh) | (exfalso; rename_i hh; exact absurd hh (by rw [CE.out]; decide)) | (exfalso; rename_i hh; exact absurd (beq_iff_eq.mpr hh) (by rw [CA.out]; decide)) | (exfalso; rename_i hh; exact absurd (beq_iff_eq.mp CA.out) hh) | (exfalso; rename_i hh; exact absurd hh (by rw [CA.out]; decide)) | (exfalso; rename_i hh; exact absurd hh.2 (by rw [CA.out]; decide)) | (exfalso; rename_i hh; rw [CE.out, CA.out] at hh; revert hh; decide))
            all_goals (go_ret; exact ⟨by rw [HR3.out]; first | done | rfl, by repeat (first | (with_reducible first | exact HB.out | apply below_alloc | apply pw_below_drewN | apply below_drew1) | exact HB.out)⟩)
      · have HH := Aside0.mk hh
        have HI := Aside0.mk hb
        clear hh hb
        by_cases ce : a0_4.toList = []
        · have CE := Aside0.mk (List.isEmpty_iff.mpr ce)
          have hr : r = (a0_5 == 0) := by rw [← HR.out]; unfold coverB; rw [if_pos ce]
          have HR3 := Aside0.mk hr
          clear hr ce
          go_wp2_with (first | (go_at_call 15; (with_reducible refine (in_b _ _ _ _ HI.out _).mono ?_); rintro e w9 ⟨rfl, ⟨nd, rfl⟩⟩) | (go_at_call 16; (with_reducible refine (contains_c _ _ HH.out K1.out E1.out).mono ?_); rintro e w9 ⟨rfl, ⟨nd2, rfl⟩⟩))
          try any_goals (first | (exfalso; rename_i hh; exact absurd hh.1 (by rw [CE.out]; decide)) | (exfalso; rename_i hh; exact absurd (List.isEmpty_iff.mpr hh) (by rw [CE.out]; decide)) | (exfalso; rename_i hh; exact absurd (List.isEmpty_iff.mp CE.out) hh) | (exfalso; rename_i hh; exact absurd hh (by rw [CE.out]; decide)) | (exfalso; rename_i hh; exact absurd (beq_iff_eq.mpr hh) (by rw [CA.out]; decide)) | (exfalso; rename_i hh; exact absurd (beq_iff_eq.mp CA.out) hh) | (exfalso; rename_i hh; exact absurd hh (by rw [CA.out]; decide)) | (exfalso; rename_i hh; exact absurd hh.2 (by rw [CA.out]; decide)) | (exfalso; rename_i hh; rw [CE.out, CA.out] at hh; revert hh; decide))
          all_goals (go_ret; exact ⟨by rw [HR3.out]; first | done | rfl, by repeat (first | (with_reducible first | exact HB.out | apply below_alloc | apply pw_below_drewN | apply below_drew1) | exact HB.out)⟩)
        · have CE : Aside0 (a0_4.toList.isEmpty = false) := ⟨Bool.eq_false_iff.mpr (fun h => ce (List.isEmpty_iff.mp h))⟩
          by_cases cs : a0_4.toList = [83, 75, 67]
          · have hr : r = (a0_5 == 0) := by rw [← HR.out]; unfold coverB; rw [if_neg ce, if_pos cs]
            have ca : (a0_4.toList == [83, 75, 67]) = true := beq_iff_eq.mpr cs
            have HR3 := Aside0.mk hr
            have CA := Aside0.mk ca
            clear hr ce cs ca
            go_wp2_with (first | (go_at_call 15; (with_reducible refine (in_b _ _ _ _ HI.out _).mono ?_); rintro e w9 ⟨rfl, ⟨nd, rfl⟩⟩) | (go_at_call 16; (with_reducible refine (contains_c _ _ HH.out K1.out E1.out).mono ?_); rintro e w9 ⟨rfl, ⟨nd2, rfl⟩⟩))
            try any_goals (first | (exfalso; rename_i hh; exact absurd hh.1 (by rw [CE.out]; decide)) | (exfalso; rename_i hh; exact absurd (List.isEmpty_iff.mpr hh) (by rw [CE.out]; decide)) | (exfalso; rename_i hh; exact absurd (List.isEmpty_iff.mp CE.out) hh) | (exfalso; rename_i hh; exact absurd hh (by rw [CE.out]; decide)) | (exfalso; rename_i hh; exact absurd (beq_iff_eq.mpr hh) (by rw [CA.out]; decide)) | (exfalso; rename_i hh; exact absurd (beq_iff_eq.mp CA.out) hh) | (exfalso; rename_i hh; exact absurd hh (by rw [CA.out]; decide)) | (exfalso; rename_i hh; exact absurd hh.2 (by rw [CA.out]; decide)) | (exfalso; rename_i hh; rw [CE.out, CA.out] at hh; revert hh; decide))
            all_goals (go_ret; exact ⟨by rw [HR3.out]; first | done | rfl, by repeat (first | (with_reducible first | exact HB.out | apply below_alloc | apply pw_below_drewN | apply below_drew1) | exact HB.out)⟩)
          · have hr : r = false := by rw [← HR.out]; unfold coverB; rw [if_neg ce, if_neg cs, HH.out, HI.out]; rfl
            have ca : (a0_4.toList == [83, 75, 67]) = false := beq_eq_false_iff_ne.mpr cs
            have HR3 := Aside0.mk hr
            have CA := Aside0.mk ca
            clear hr ce cs ca
            go_wp2_with (first | (go_at_call 15; (with_reducible refine (in_b _ _ _ _ HI.out _).mono ?_); rintro e w9 ⟨rfl, ⟨nd, rfl⟩⟩) | (go_at_call 16; (with_reducible refine (contains_c _ _ HH.out K1.out E1.out).mono ?_); rintro e w9 ⟨rfl, ⟨nd2, rfl⟩⟩))
            try any_goals (first | (exfalso; rename_i hh; exact absurd hh.1 (by rw [CE.out]; decide)) | (exfalso; rename_i hh; exact absurd (List.isEmpty_iff.mpr hh) (by rw [CE.out]; decide)) | (exfalso; rename_i hh; exact absurd (List.isEmpty_iff.mp CE.out) hh) | (exfalso; rename_i hh; exact absurd hh (by rw [CE.out]; decide)) | (exfalso; rename_i hh; exact absurd (beq_iff_eq.mpr hh) (by rw [CA.out]; decide)) | (exfalso; rename_i hh; exact absurd (beq_iff_eq.mp CA.out) hh) | (exfalso; rename_i hh; exact absurd hh (by rw [CA.out]; decide)) | (exfalso; rename_i hh; exact absurd hh.2 (by rw [CA.out]; decide)) | (exfalso; rename_i hh; rw [CE.out, CA.out] at hh; revert hh; decide))
            all_goals (go_ret; exact ⟨by rw [HR3.out]; first | done | rfl, by repeat (first | (with_reducible first | exact HB.out | apply below_alloc | apply pw_below_drewN | apply below_drew1) | exact HB.out)⟩)
      · have HH := Aside0.mk hh
        have HI := Aside0.mk hb
        clear hh hb
        by_cases ce : a0_4.toList = []
        · have CE := Aside0.mk (List.isEmpty_iff.mpr ce)
          have hr : r = (a0_5 == 0) := by rw [← HR.out]; unfold coverB; rw [if_pos ce]
          have HR3 := Aside0.mk hr
          clear hr ce
          go_wp2_with (first | (go_at_call 15; (with_reducible refine (in_b _ _ _ _ HI.out _).mono ?_); rintro e w9 ⟨rfl, ⟨nd, rfl⟩⟩) | (go_at_call 16; (with_reducible refine (contains_c _ _ HH.out K1.out E1.out).mono ?_); rintro e w9 ⟨rfl, ⟨nd2, rfl⟩⟩))
          try any_goals (first | (exfalso; rename_i hh; exact absurd hh.1 (by rw [CE.out]; decide)) | (exfalso; rename_i hh; exact absurd (List.isEmpty_iff.mpr hh) (by rw [CE.out]; decide)) | (exfalso; rename_i hh; exact absurd (List.isEmpty_iff.mp CE.out) hh) | (exfalso; rename_i hh; exact absurd hh (by rw [CE.out]; decide)) | (exfalso; rename_i hh; exact absurd (beq_iff_eq.mpr hh) (by rw [CA.out]; decide)) | (exfalso; rename_i hh; exact absurd (beq_iff_eq.mp CA.out) hh) | (exfalso; rename_i hh; exact absurd hh (by rw [CA.out]; decide)) | (exfalso; rename_i hh; exact absurd hh.2 (by rw [CA.out]; decide)) | (exfalso; rename_i hh; rw [CE.out, CA.out] at hh; revert hh; decide))
          all_goals (go_ret; exact ⟨by rw [HR3.out]; first | done | rfl, by repeat (first | (with_reducible first | exact HB.out | apply below_alloc | apply pw_below_drewN | apply below_drew1) | exact HB.out)⟩)
        · have CE : Aside0 (a0_4.toList.isEmpty = false) := ⟨Bool.eq_false_iff.mpr (fun h => ce (List.isEmpty_iff.mp h))⟩
          by_cases cs : a0_4.toList = [83, 75, 67]
          · have hr : r = (a0_5 == 0) := by rw [← HR.out]; unfold coverB; rw [if_neg ce, if_pos cs]
            have ca : (a0_4.toList == [83, 75, 67]) = true := beq_iff_eq.mpr cs
            have HR3 := Aside0.mk hr
            have CA := Aside0.mk ca
            clear hr ce cs ca
            go_wp2_with (first | (go_at_call 15; (with_reducible refine (in_b _ _ _ _ HI.out _).mono ?_); rintro e w9 ⟨rfl, ⟨nd, rfl⟩⟩) | (go_at_call 16; (with_reducible refine (contains_c _ _ HH.out K1.out E1.out).mono ?_); rintro e w9 ⟨rfl, ⟨nd2, rfl⟩⟩))
            try any_goals (first | (exfalso; rename_i hh; exact absurd hh.1 (by rw [CE.out]; decide)) | (exfalso; rename_i hh; exact absurd (List.isEmpty_iff.mpr hh) (by rw [CE.out]; decide)) | (exfalso; rename_i hh; exact absurd (List.isEmpty_iff.mp CE.out) hh) | (exfalso; rename_i hh; exact absurd hh (by rw [CE.out]; decide)) | (exfalso; rename_i hh; exact absurd (beq_iff_eq.mpr hh) (by rw [CA.out]; decide)) | (exfalso; rename_i hh; exact absurd (beq_iff_eq.mp CA.out) hh) | (exfalso; rename_i hh; exact absurd hh (by rw [CA.out]; decide)) | (exfalso; rename_i hh; exact absurd hh.2 (by rw [CA.out]; decide)) | (exfalso; rename_i hh; rw [CE.out, CA.out] at hh; revert hh; decide))
            all_goals (go_ret; exact ⟨by rw [HR3.out]; first | done | rfl, by repeat (first | (with_reducible first | exact HB.out | apply below_alloc | apply pw_below_drewN | apply below_drew1) | exact HB.out)⟩)
          · have hr : r = false := by rw [← HR.out]; unfold coverB; rw [if_neg ce, if_neg cs, HH.out, HI.out]; rfl
            have ca : (a0_4.toList == [83, 75, 67]) = false := beq_eq_false_iff_ne.mpr cs
            have HR3 := Aside0.mk hr
            have CA := Aside0.mk ca
            clear hr ce cs ca
            go_wp2_with (first | (go_at_call 15; (with_reducible refine (in_b _ _ _ _ HI.out _).mono ?_); rintro e w9 ⟨rfl, ⟨nd, rfl⟩⟩) | (go_at_call 16; (with_reducible refine (contains_c _ _ HH.out K1.out E1.out).mono ?_); rintro e w9 ⟨rfl, ⟨nd2, rfl⟩⟩))
            try any_goals (first | (exfalso; rename_i hh; exact absurd hh.1 (by rw [CE.out]; decide)) | (exfalso; rename_i hh; exact absurd (List.isEmpty_iff.mpr hh) (by rw [CE.out]; decide)) | (exfalso; rename_i hh; exact absurd (List.isEmpty_iff.mp CE.out) hh) | (exfalso; rename_i hh; exact absurd hh (by rw [CE.out]; decide)) | (exfalso; rename_i hh; exact absurd (beq_iff_eq.mpr hh) (by rw [CA.out]; decide)) | (exfalso; rename_i hh; exact absurd (beq_iff_eq.mp CA.out) hh) | (exfalso; rename_i hh; exact absurd hh (by rw [CA.out]; decide)) | (exfalso; rename_i hh; exact absurd hh.2 (by rw [CA.out]; decide)) | (exfalso; rename_i hh; rw [CE.out, CA.out] at hh; revert hh; decide))
            all_goals (go_ret; exact ⟨by rw [HR3.out]; first | done | rfl, by repeat (first | (with_reducible first | exact HB.out | apply below_alloc | apply pw_below_drewN | apply below_drew1) | exact HB.out)⟩)
      · have HH := Aside0.mk hh
        have HI := Aside0.mk hb
        clear hh hb
        by_cases ce : a0_4.toList = []
        · have CE := Aside0.mk (List.isEmpty_iff.mpr ce)
          have hr : r = (a0_5 == 0) := by rw [← HR.out]; unfold coverB; rw [if_pos ce]
          have HR3 := Aside0.mk hr
          clear hr ce
          go_wp2_with (first | (go_at_call 15; (with_reducible refine (in_b _ _ _ _ HI.out _).mono ?_); rintro e w9 ⟨rfl, ⟨nd, rfl⟩⟩) | (go_at_call 16; (with_reducible refine (contains_c _ _ HH.out K1.out E1.out).mono ?_); rintro e w9 ⟨rfl, ⟨nd2, rfl⟩⟩))
          try any_goals (first | (exfalso; rename_i hh; exact absurd hh.1 (by rw [CE.out]; decide)) | (exfalso; rename_i hh; exact absurd (List.isEmpty_iff.mpr hh) (by rw [CE.out]; decide)) | (exfalso; rename_i hh; exact absurd (List.isEmpty_iff.mp CE.out) hh) | (exfalso; rename_i hh; exact absurd hh (by rw [CE.out]; decide)) | (exfalso; rename_i hh; exact absurd (beq_iff_eq.mpr hh) (by rw [CA.out]; decide)) | (exfalso; rename_i hh; exact absurd (beq_iff_eq.mp CA.out) hh) | (exfalso; rename_i hh; exact absurd hh (by rw [CA.out]; decide)) | (exfalso; rename_i hh; exact absurd hh.2 (by rw [CA.out]; decide)) | (exfalso; rename_i hh; rw [CE.out, CA.out] at hh; revert hh; decide))
          all_goals (go_ret; exact ⟨by rw [HR3.out]; first | done | rfl, by repeat (first | (with_reducible first | exact HB.out | apply below_alloc | apply pw_below_drewN | apply below_drew1) | exact HB.out)⟩)
        · have CE : Aside0 (a0_4.toList.isEmpty = false) := ⟨Bool.eq_false_iff.mpr (fun h => ce (List.isEmpty_iff.mp h))⟩
          by_cases cs : a0_4.toList = [83, 75, 67]
          · have hr : r = (a0_5 == 0) := by rw [← HR.out]; unfold coverB; rw [if_neg ce, if_pos cs]
            have ca : (a0_4.toList == [83, 75, 67]) = true := beq_iff_eq.mpr cs
            have HR3 := Aside0.mk hr
            have CA := Aside0.mk ca
            clear hr ce cs ca
            go_wp2_with (first | (go_at_call 15; (with_reducible refine (in_b _ _ _ _ HI.out _).mono ?_); rintro e w9 ⟨rfl, ⟨nd, rfl⟩⟩) | (go_at_call 16; (with_reducible refine (contains_c _ _ HH.out K1.out E1.out).mono ?_); rintro e w9 ⟨rfl, ⟨nd2, rfl⟩⟩))
            try any_goals (first | (exfalso; rename_i hh; exact absurd hh.1 (by rw [CE.out]; decide)) | (exfalso; rename_i hh; exact absurd (List.isEmpty_iff.mpr hh) (by rw [CE.out]; decide)) | (exfalso; rename_i hh; exact absurd (List.isEmpty_iff.mp CE.out) hh) | (exfalso; rename_i hh; exact absurd hh (by rw [CE.out]; decide)) | (exfalso; rename_i hh; exact absurd (beq_iff_eq.mpr hh) (by rw [CA.out]; decide)) | (exfalso; rename_i hh; exact absurd (beq_iff_eq.mp CA.out) hh) | (exfalso; rename_i hh; exact absurd hh (by rw [CA.out]; decide)) | (exfalso; rename_i hh; exact absurd hh.2 (by rw [CA.out]; decide)) | (exfalso; rename_i hh; rw [CE.out, CA.out] at hh; revert hh; decide))
            all_goals (go_ret; exact ⟨by rw [HR3.out]; first | done | rfl, by repeat (first | (with_reducible first | exact HB.out | apply below_alloc | apply pw_below_drewN | apply below_drew1) | exact HB.out)⟩)
          · have hr : r = true := by rw [← HR.out]; unfold coverB; rw [if_neg ce, if_neg cs, HH.out, HI.out]; rfl
            have ca : (a0_4.toList == [83, 75, 67]) = false := beq_eq_false_iff_ne.mpr cs
            have HR3 := Aside0.mk hr
            have CA := Aside0.mk ca
            clear hr ce cs ca
            go_wp2_with (first | (go_at_call 15; (with_reducible refine (in_b _ _ _ _ HI.out _).mono ?_); rintro e w9 ⟨rfl, ⟨nd, rfl⟩⟩) | (go_at_call 16; (with_reducible refine (contains_c _ _ HH.out K1.out E1.out).mono ?_); rintro e w9 ⟨rfl, ⟨nd2, rfl⟩⟩))
            try any_goals (first | (exfalso; rename_i hh; exact absurd hh.1 (by rw [CE.out]; decide)) | (exfalso; rename_i hh; exact absurd (List.isEmpty_iff.mpr hh) (by rw [CE.out]; decide)) | (exfalso; rename_i hh; exact absurd (List.isEmpty_iff.mp CE.out) hh) | (exfalso; rename_i hh; exact absurd hh (by rw [CE.out]; decide)) | (exfalso; rename_i hh; exact absurd (beq_iff_eq.mpr hh) (by rw [CA.out]; decide)) | (exfalso; rename_i hh; exact absurd (beq_iff_eq.mp CA.out) hh) | (exfalso; rename_i hh; exact absurd hh (by rw [CA.out]; decide)) | (exfalso; rename_i hh; exact absurd hh.2 (by rw [CA.out]; decide)) | (exfalso; rename_i hh; rw [CE.out, CA.out] at hh; revert hh; decide))
            all_goals (go_ret; exact ⟨by rw [HR3.out]; first | done | rfl, by repeat (first | (with_reducible first | exact HB.out | apply below_alloc | apply pw_below_drewN | apply below_drew1) | exact HB.out)⟩)

/-! ### laws_FnExactSkyOk: function 3 -/
def laws_FnExactSkyOk.f (k : Nat) (a0_0 : Int) (a0_1 : Int) (a0_2 : Int) (a0_3 : ByteArray) (a0_4 : ByteArray) (a0_5 : Int) : Option (Bool) := (laws_szSky.f a0_0 a0_1 a0_2 a0_3 a0_4 a0_5 1048576).bind fun t127 => (if t127 < 0 then (some true) else ((laws_toSky.f a0_0 a0_1 a0_2 a0_3 a0_4 a0_5).bind fun bt128 => ((spec_SkyOk.f k bt128.1 bt128.2.1 bt128.2.2.1 bt128.2.2.2.1 bt128.2.2.2.2.1 bt128.2.2.2.2.2).bind fun t134 => ((laws_toSky.f a0_0 a0_1 a0_2 a0_3 a0_4 a0_5).bind fun bt135 => ((impl_SkyOk.f k bt135.1 bt135.2.1 bt135.2.2.1 bt135.2.2.2.1 bt135.2.2.2.2.1 bt135.2.2.2.2.2).bind fun t141 => (if (t141 != t134) = true then (some false) else (some true)))))))
theorem laws_FnExactSkyOk.mono : ∀ a0 a1 a2 a3 a4 a5 k, LeO (laws_FnExactSkyOk.f k a0 a1 a2 a3 a4 a5) (laws_FnExactSkyOk.f (k + 1) a0 a1 a2 a3 a4 a5) := by
  intro a0 a1 a2 a3 a4 a5 k
  unfold laws_FnExactSkyOk.f
  repeat' first
      | (with_reducible exact impl_SkyOk.mono _ _ _ _ _ _ _)
      | (with_reducible exact spec_SkyOk.mono _ _ _ _ _ _ _)
      | (with_reducible exact LeO.refl _)
      | (with_reducible exact LeO.none _)
      | (with_reducible refine LeO.ite ?_ ?_)
      | (with_reducible refine LeO.bind ?_ (fun _ => ?_))
      | exact impl_SkyOk.mono _ _ _ _ _ _ _
      | exact spec_SkyOk.mono _ _ _ _ _ _ _
      | exact LeO.none _
      | refine LeO.ite ?_ ?_
      | refine LeO.bind ?_ (fun _ => ?_)
set_option maxHeartbeats 8000000 in
set_option maxRecDepth 100000 in
theorem laws_FnExactSkyOk.calls (k : Nat) (a0_0 : Int) (a0_1 : Int) (a0_2 : Int) (a0_3 : ByteArray) (a0_4 : ByteArray) (a0_5 : Int) (r : Bool) (w : World) (hg : Gl w) (h : laws_FnExactSkyOk.f k a0_0 a0_1 a0_2 a0_3 a0_4 a0_5 = some r) :
    Calls Tryd.prog 3 #[.agg #[.int .i64 a0_0, .int .i64 a0_1, .int .i64 a0_2, .string a0_3, .string a0_4, .int .i64 a0_5]] w fun e w' => e = .returned (.bool r) ∧ Below w.heap.size w w' := by
  have hu23 := Tryd.underlying23
  have HGL := Aside0.mk hg
  clear hg
  have HB := Aside0.mk (Below.refl w.heap.size w)
  have H : ((laws_szSky.f a0_0 a0_1 a0_2 a0_3 a0_4 a0_5 1048576).bind fun t127 => (if t127 < 0 then (some true) else ((laws_toSky.f a0_0 a0_1 a0_2 a0_3 a0_4 a0_5).bind fun bt128 => ((spec_SkyOk.f k bt128.1 bt128.2.1 bt128.2.2.1 bt128.2.2.2.1 bt128.2.2.2.2.1 bt128.2.2.2.2.2).bind fun t134 => ((laws_toSky.f a0_0 a0_1 a0_2 a0_3 a0_4 a0_5).bind fun bt135 => ((impl_SkyOk.f k bt135.1 bt135.2.1 bt135.2.2.1 bt135.2.2.2.1 bt135.2.2.2.2.1 bt135.2.2.2.2.2).bind fun t141 => (if (t141 != t134) = true then (some false) else (some true)))))))) = some r := h
  clear h
  replace H := Option.bind_eq_some_iff.mp H
  obtain ⟨t127, A20, H⟩ := H
  replace H : (if t127 < 0 then (some true) else ((laws_toSky.f a0_0 a0_1 a0_2 a0_3 a0_4 a0_5).bind fun bt128 => ((spec_SkyOk.f k bt128.1 bt128.2.1 bt128.2.2.1 bt128.2.2.2.1 bt128.2.2.2.2.1 bt128.2.2.2.2.2).bind fun t134 => ((laws_toSky.f a0_0 a0_1 a0_2 a0_3 a0_4 a0_5).bind fun bt135 => ((impl_SkyOk.f k bt135.1 bt135.2.1 bt135.2.2.1 bt135.2.2.2.1 bt135.2.2.2.2.1 bt135.2.2.2.2.2).bind fun t141 => (if (t141 != t134) = true then (some false) else (some true))))))) = some r := H
  have A2 := Aside0.mk A20
  clear A20
  by_cases c3 : t127 < 0
  · rw [if_pos c3] at H
    have c3b0 : decide (t127 < 0) = true := decide_eq_true c3
    clear c3
    obtain rfl := Option.some.inj H
    go_enter Tryd.func3, Tryd.ntmps3
    go_wp2_with (first | ((with_reducible refine gate_dst (N := 1) rfl ?_); refine box_event ?hg (N := 1) ?hd (cs := #[.int .i64 a0_0, .int .i64 a0_1, .int .i64 a0_2, .string a0_3, .string a0_4, .int .i64 a0_5]) (t := 23) ?hr ?_; (case hd => rfl); (case hg => rfl); (case hr => first | (go_simp; done) | (go_simp; rfl)); intro gb126 hg w4 hbox hb; have n0_ := Aside0.mk (below_step (by repeat (first | (with_reducible first | exact HB.out | apply below_alloc | apply pw_below_drewN | apply below_drew1) | exact HB.out)) hb); have n1_ := Aside0.mk (hbox); have n2_ := Aside0.mk ((by rw [hg]; exact (below_size (by repeat (first | (with_reducible first | exact HB.out | apply below_alloc | apply pw_below_drewN | apply below_drew1) | exact HB.out))) : w.heap.size ≤ gb126)); have n3_ := Aside0.mk ((by rw [hg]; exact (below_size (by repeat (first | (with_reducible first | exact HB.out | apply below_alloc | apply pw_below_drewN | apply below_drew1) | exact HB.out))) : w.heap.size ≤ gb126)); clear HB; have HB := n0_; have BK126 := n1_; have GW126 := n2_; have GE126 := n3_; clear n0_ n1_ n2_ n3_; clear hb hbox hg; have hcz5_0 : w4.cell? ⟨gb126, 0, none⟩ = some (.int .i64 a0_0) := (blk_cell BK126.out 0).trans rfl; have hcz5_1 : w4.cell? ⟨gb126, 1, none⟩ = some (.int .i64 a0_1) := (blk_cell BK126.out 1).trans rfl; have hcz5_2 : w4.cell? ⟨gb126, 2, none⟩ = some (.int .i64 a0_2) := (blk_cell BK126.out 2).trans rfl; have hcz5_3 : w4.cell? ⟨gb126, 3, none⟩ = some (.string a0_3) := (blk_cell BK126.out 3).trans rfl; have hcz5_4 : w4.cell? ⟨gb126, 4, none⟩ = some (.string a0_4) := (blk_cell BK126.out 4).trans rfl; have hcz5_5 : w4.cell? ⟨gb126, 5, none⟩ = some (.int .i64 a0_5) := (blk_cell BK126.out 5).trans rfl; have hfz5_0 := blk_frozen BK126.out 0; have hfz5_1 := blk_frozen BK126.out 1; have hfz5_2 := blk_frozen BK126.out 2; have hfz5_3 := blk_frozen BK126.out 3; have hfz5_4 := blk_frozen BK126.out 4; have hfz5_5 := blk_frozen BK126.out 5) | ((with_reducible refine gate_callee (f := 5) rfl ?_); refine goesL_ (some 8) rfl rfl Tryd.func5 (by kernel_rfl) rfl #[.agg #[.int .i64 a0_0, .int .i64 a0_1, .int .i64 a0_2, .string a0_3, .string a0_4, .int .i64 a0_5], .int .i64 1048576] rfl (by (try simp only [List.map_toArray, List.map_cons, List.map_nil]); first | done | rfl | (simp only [List.length_drop, List.length_take]; rfl)) ?_; (with_reducible refine (laws_szSky.calls a0_0 a0_1 a0_2 a0_3 a0_4 a0_5 1048576 t127 _ A2.out).mono ?_); rintro e w6 ⟨rfl, hb⟩; refine ⟨_, rfl, ?_⟩; have n0_ := Aside0.mk (blk_below (g := gb126) (o := .cells #[.int .i64 a0_0, .int .i64 a0_1, .int .i64 a0_2, .string a0_3, .string a0_4, .int .i64 a0_5] 23 (0, 0)) (by (with_reducible repeat (first | refine blk_drewN ?_ _ | refine blk_drew ?_ | refine blk_alloc ?_ _)); exact BK126.out) hb); have n1_ := Aside0.mk (below_step (by repeat (first | (with_reducible first | exact HB.out | apply below_alloc | apply pw_below_drewN | apply below_drew1 | refine below_set ?_ GE126.out) | exact HB.out)) hb); clear BK126; clear HB; have BK126 := n0_; have HB := n1_; clear n0_ n1_; (try clear hb); (try clear hb2); (try clear hk); (try clear hi)))
    go_ret
    exact ⟨by first | rfl | (simp [errW_none, errW_some] <;> rfl) | (simp [*, errW_none, errW_some] <;> rfl), by repeat (first | (with_reducible first | exact HB.out | apply below_alloc | apply pw_below_drewN | apply below_drew1 | refine below_set ?_ GE126.out) | exact HB.out)⟩
  · rw [if_neg c3] at H
    have c3b0 : decide (t127 < 0) = false := decide_eq_false c3
    clear c3
    replace H := Option.bind_eq_some_iff.mp H
    obtain ⟨⟨t128, t129, t130, t131, t132, t133⟩, A70, H⟩ := H
    replace H : ((spec_SkyOk.f k t128 t129 t130 t131 t132 t133).bind fun t134 => ((laws_toSky.f a0_0 a0_1 a0_2 a0_3 a0_4 a0_5).bind fun bt135 => ((impl_SkyOk.f k bt135.1 bt135.2.1 bt135.2.2.1 bt135.2.2.2.1 bt135.2.2.2.2.1 bt135.2.2.2.2.2).bind fun t141 => (if (t141 != t134) = true then (some false) else (some true))))) = some r := H
    have A7 := Aside0.mk A70
    clear A70
    replace H := Option.bind_eq_some_iff.mp H
    obtain ⟨t134, A80, H⟩ := H
    replace H : ((laws_toSky.f a0_0 a0_1 a0_2 a0_3 a0_4 a0_5).bind fun bt135 => ((impl_SkyOk.f k bt135.1 bt135.2.1 bt135.2.2.1 bt135.2.2.2.1 bt135.2.2.2.2.1 bt135.2.2.2.2.2).bind fun t141 => (if (t141 != t134) = true then (some false) else (some true)))) = some r := H
    have A8 := Aside0.mk A80
    clear A80
    replace H := Option.bind_eq_some_iff.mp H
    obtain ⟨⟨t135, t136, t137, t138, t139, t140⟩, A90, H⟩ := H
    replace H : ((impl_SkyOk.f k t135 t136 t137 t138 t139 t140).bind fun t141 => (if (t141 != t134) = true then (some false) else (some true))) = some r := H
    have A9 := Aside0.mk A90
    clear A90
    replace H := Option.bind_eq_some_iff.mp H
    obtain ⟨t141, A100, H⟩ := H
    replace H : (if (t141 != t134) = true then (some false) else (some true)) = some r := H
    have A10 := Aside0.mk A100
    clear A100
    by_cases c11 : (t141 != t134) = true
    · rw [if_pos c11] at H
      have c11b0 : (t141 != t134) = true := c11
      (try (have c11b1 : decide (t141 = t134) = false := by simpa using c11))
      (try (have c11b2 : (t141 == t134) = false := by simpa using c11))
      (try (have c11b3 : ¬ (t141 = t134) := by simpa using c11))
      clear c11
      obtain rfl := Option.some.inj H
      go_enter Tryd.func3, Tryd.ntmps3
      go_wp2_with (first | ((with_reducible refine gate_dst (N := 1) rfl ?_); refine box_event ?hg (N := 1) ?hd (cs := #[.int .i64 a0_0, .int .i64 a0_1, .int .i64 a0_2, .string a0_3, .string a0_4, .int .i64 a0_5]) (t := 23) ?hr ?_; (case hd => rfl); (case hg => rfl); (case hr => first | (go_simp; done) | (go_simp; rfl)); intro gb126 hg w12 hbox hb; have n0_ := Aside0.mk (below_step (by repeat (first | (with_reducible first | exact HB.out | apply below_alloc | apply pw_below_drewN | apply below_drew1) | exact HB.out)) hb); have n1_ := Aside0.mk (hbox); have n2_ := Aside0.mk ((by rw [hg]; exact (below_size (by repeat (first | (with_reducible first | exact HB.out | apply below_alloc | apply pw_below_drewN | apply below_drew1) | exact HB.out))) : w.heap.size ≤ gb126)); have n3_ := Aside0.mk ((by rw [hg]; exact (below_size (by repeat (first | (with_reducible first | exact HB.out | apply below_alloc | apply pw_below_drewN | apply below_drew1) | exact HB.out))) : w.heap.size ≤ gb126)); clear HB; have HB := n0_; have BK126 := n1_; have GW126 := n2_; have GE126 := n3_; clear n0_ n1_ n2_ n3_; clear hb hbox hg; have hcz13_0 : w12.cell? ⟨gb126, 0, none⟩ = some (.int .i64 a0_0) := (blk_cell BK126.out 0).trans rfl; have hcz13_1 : w12.cell? ⟨gb126, 1, none⟩ = some (.int .i64 a0_1) := (blk_cell BK126.out 1).trans rfl; have hcz13_2 : w12.cell? ⟨gb126, 2, none⟩ = some (.int .i64 a0_2) := (blk_cell BK126.out 2).trans rfl; have hcz13_3 : w12.cell? ⟨gb126, 3, none⟩ = some (.string a0_3) := (blk_cell BK126.out 3).trans rfl; have hcz13_4 : w12.cell? ⟨gb126, 4, none⟩ = some (.string a0_4) := (blk_cell BK126.out 4).trans rfl; have hcz13_5 : w12.cell? ⟨gb126, 5, none⟩ = some (.int .i64 a0_5) := (blk_cell BK126.out 5).trans rfl; have hfz13_0 := blk_frozen BK126.out 0; have hfz13_1 := blk_frozen BK126.out 1; have hfz13_2 := blk_frozen BK126.out 2; have hfz13_3 := blk_frozen BK126.out 3; have hfz13_4 := blk_frozen BK126.out 4; have hfz13_5 := blk_frozen BK126.out 5) | ((with_reducible refine gate_callee (f := 5) rfl ?_); refine goesL_ (some 8) rfl rfl Tryd.func5 (by kernel_rfl) rfl #[.agg #[.int .i64 a0_0, .int .i64 a0_1, .int .i64 a0_2, .string a0_3, .string a0_4, .int .i64 a0_5], .int .i64 1048576] rfl (by (try simp only [List.map_toArray, List.map_cons, List.map_nil]); first | done | rfl | (simp only [List.length_drop, List.length_take]; rfl)) ?_; (with_reducible refine (laws_szSky.calls a0_0 a0_1 a0_2 a0_3 a0_4 a0_5 1048576 t127 _ A2.out).mono ?_); rintro e w14 ⟨rfl, hb⟩; refine ⟨_, rfl, ?_⟩; have n0_ := Aside0.mk (blk_below (g := gb126) (o := .cells #[.int .i64 a0_0, .int .i64 a0_1, .int .i64 a0_2, .string a0_3, .string a0_4, .int .i64 a0_5] 23 (0, 0)) (by (with_reducible repeat (first | refine blk_drewN ?_ _ | refine blk_drew ?_ | refine blk_alloc ?_ _)); exact BK126.out) hb); have n1_ := Aside0.mk (below_step (by repeat (first | (with_reducible first | exact HB.out | apply below_alloc | apply pw_below_drewN | apply below_drew1 | refine below_set ?_ GE126.out) | exact HB.out)) hb); clear BK126; clear HB; have BK126 := n0_; have HB := n1_; clear n0_ n1_; (try clear hb); (try clear hb2); (try clear hk); (try clear hi); have hcz15_0 : w14.cell? ⟨gb126, 0, none⟩ = some (.int .i64 a0_0) := (blk_cell BK126.out 0).trans rfl; have hcz15_1 : w14.cell? ⟨gb126, 1, none⟩ = some (.int .i64 a0_1) := (blk_cell BK126.out 1).trans rfl; have hcz15_2 : w14.cell? ⟨gb126, 2, none⟩ = some (.int .i64 a0_2) := (blk_cell BK126.out 2).trans rfl; have hcz15_3 : w14.cell? ⟨gb126, 3, none⟩ = some (.string a0_3) := (blk_cell BK126.out 3).trans rfl; have hcz15_4 : w14.cell? ⟨gb126, 4, none⟩ = some (.string a0_4) := (blk_cell BK126.out 4).trans rfl; have hcz15_5 : w14.cell? ⟨gb126, 5, none⟩ = some (.int .i64 a0_5) := (blk_cell BK126.out 5).trans rfl; have hfz15_0 := blk_frozen BK126.out 0; have hfz15_1 := blk_frozen BK126.out 1; have hfz15_2 := blk_frozen BK126.out 2; have hfz15_3 := blk_frozen BK126.out 3; have hfz15_4 := blk_frozen BK126.out 4; have hfz15_5 := blk_frozen BK126.out 5) | ((with_reducible refine gate_callee (f := 7) rfl ?_); refine goesL_ (some 12) rfl rfl Tryd.func7 (by kernel_rfl) rfl #[.agg #[.int .i64 a0_0, .int .i64 a0_1, .int .i64 a0_2, .string a0_3, .string a0_4, .int .i64 a0_5]] rfl (by (try simp only [List.map_toArray, List.map_cons, List.map_nil]); first | done | rfl | (simp only [List.length_drop, List.length_take]; rfl)) ?_; (with_reducible refine (laws_toSky.calls a0_0 a0_1 a0_2 a0_3 a0_4 a0_5 t128 t129 t130 t131 t132 t133 _ A7.out).mono ?_); rintro e w16 ⟨rfl, hb⟩; refine ⟨_, rfl, ?_⟩; have n0_ := Aside0.mk (blk_below (g := gb126) (o := .cells #[.int .i64 a0_0, .int .i64 a0_1, .int .i64 a0_2, .string a0_3, .string a0_4, .int .i64 a0_5] 23 (0, 0)) (by (with_reducible repeat (first | refine blk_drewN ?_ _ | refine blk_drew ?_ | refine blk_alloc ?_ _)); exact BK126.out) hb); have n1_ := Aside0.mk (below_step (by repeat (first | (with_reducible first | exact HB.out | apply below_alloc | apply pw_below_drewN | apply below_drew1 | refine below_set ?_ GE126.out) | exact HB.out)) hb); clear BK126; clear HB; have BK126 := n0_; have HB := n1_; clear n0_ n1_; (try clear hb); (try clear hb2); (try clear hk); (try clear hi)) | ((with_reducible refine gate_callee (f := 6) rfl ?_); refine goesL_ (some 13) rfl rfl Tryd.func6 (by kernel_rfl) rfl #[.agg #[.int .i64 t128, .int .i64 t129, .int .i64 t130, .string t131, .string t132, .int .i64 t133]] rfl (by (try simp only [List.map_toArray, List.map_cons, List.map_nil]); first | done | rfl | (simp only [List.length_drop, List.length_take]; rfl)) ?_; (with_reducible refine (spec_SkyOk.calls k t128 t129 t130 t131 t132 t133 t134 _ A8.out).mono ?_); rintro e w17 ⟨rfl, hb⟩; refine ⟨_, rfl, ?_⟩; have n0_ := Aside0.mk (blk_below (g := gb126) (o := .cells #[.int .i64 a0_0, .int .i64 a0_1, .int .i64 a0_2, .string a0_3, .string a0_4, .int .i64 a0_5] 23 (0, 0)) (by (with_reducible repeat (first | refine blk_drewN ?_ _ | refine blk_drew ?_ | refine blk_alloc ?_ _)); exact BK126.out) hb); have n1_ := Aside0.mk (below_step (by repeat (first | (with_reducible first | exact HB.out | apply below_alloc | apply pw_below_drewN | apply below_drew1 | refine below_set ?_ GE126.out) | exact HB.out)) hb); clear BK126; clear HB; have BK126 := n0_; have HB := n1_; clear n0_ n1_; (try clear hb); (try clear hb2); (try clear hk); (try clear hi); have hcz18_0 : w17.cell? ⟨gb126, 0, none⟩ = some (.int .i64 a0_0) := (blk_cell BK126.out 0).trans rfl; have hcz18_1 : w17.cell? ⟨gb126, 1, none⟩ = some (.int .i64 a0_1) := (blk_cell BK126.out 1).trans rfl; have hcz18_2 : w17.cell? ⟨gb126, 2, none⟩ = some (.int .i64 a0_2) := (blk_cell BK126.out 2).trans rfl; have hcz18_3 : w17.cell? ⟨gb126, 3, none⟩ = some (.string a0_3) := (blk_cell BK126.out 3).trans rfl; have hcz18_4 : w17.cell? ⟨gb126, 4, none⟩ = some (.string a0_4) := (blk_cell BK126.out 4).trans rfl; have hcz18_5 : w17.cell? ⟨gb126, 5, none⟩ = some (.int .i64 a0_5) := (blk_cell BK126.out 5).trans rfl; have hfz18_0 := blk_frozen BK126.out 0; have hfz18_1 := blk_frozen BK126.out 1; have hfz18_2 := blk_frozen BK126.out 2; have hfz18_3 := blk_frozen BK126.out 3; have hfz18_4 := blk_frozen BK126.out 4; have hfz18_5 := blk_frozen BK126.out 5) | ((with_reducible refine gate_callee (f := 7) rfl ?_); refine goesL_ (some 15) rfl rfl Tryd.func7 (by kernel_rfl) rfl #[.agg #[.int .i64 a0_0, .int .i64 a0_1, .int .i64 a0_2, .string a0_3, .string a0_4, .int .i64 a0_5]] rfl (by (try simp only [List.map_toArray, List.map_cons, List.map_nil]); first | done | rfl | (simp only [List.length_drop, List.length_take]; rfl)) ?_; (with_reducible refine (laws_toSky.calls a0_0 a0_1 a0_2 a0_3 a0_4 a0_5 t135 t136 t137 t138 t139 t140 _ A9.out).mono ?_); rintro e w19 ⟨rfl, hb⟩; refine ⟨_, rfl, ?_⟩; have n0_ := Aside0.mk (blk_below (g := gb126) (o := .cells #[.int .i64 a0_0, .int .i64 a0_1, .int .i64 a0_2, .string a0_3, .string a0_4, .int .i64 a0_5] 23 (0, 0)) (by (with_reducible repeat (first | refine blk_drewN ?_ _ | refine blk_drew ?_ | refine blk_alloc ?_ _)); exact BK126.out) hb); have n1_ := Aside0.mk (below_step (by repeat (first | (with_reducible first | exact HB.out | apply below_alloc | apply pw_below_drewN | apply below_drew1 | refine below_set ?_ GE126.out) | exact HB.out)) hb); clear BK126; clear HB; have BK126 := n0_; have HB := n1_; clear n0_ n1_; (try clear hb); (try clear hb2); (try clear hk); (try clear hi)) | ((with_reducible refine gate_callee (f := 8) rfl ?_); refine goesL_ (some 16) rfl rfl Tryd.func8 (by kernel_rfl) rfl #[.agg #[.int .i64 t135, .int .i64 t136, .int .i64 t137, .string t138, .string t139, .int .i64 t140]] rfl (by (try simp only [List.map_toArray, List.map_cons, List.map_nil]); first | done | rfl | (simp only [List.length_drop, List.length_take]; rfl)) ?_; (with_reducible refine (impl_SkyOk.calls k t135 t136 t137 t138 t139 t140 t141 _ (HGL.out.below (by repeat (first | (with_reducible first | exact HB.out | apply below_alloc | apply pw_below_drewN | apply below_drew1) | exact HB.out))) A10.out).mono ?_); rintro e w20 ⟨rfl, hb⟩; refine ⟨_, rfl, ?_⟩; have n0_ := Aside0.mk (blk_below (g := gb126) (o := .cells #[.int .i64 a0_0, .int .i64 a0_1, .int .i64 a0_2, .string a0_3, .string a0_4, .int .i64 a0_5] 23 (0, 0)) (by (with_reducible repeat (first | refine blk_drewN ?_ _ | refine blk_drew ?_ | refine blk_alloc ?_ _)); exact BK126.out) hb); have n1_ := Aside0.mk (below_step (by repeat (first | (with_reducible first | exact HB.out | apply below_alloc | apply pw_below_drewN | apply below_drew1 | refine below_set ?_ GE126.out) | exact HB.out)) hb); clear BK126; clear HB; have BK126 := n0_; have HB := n1_; clear n0_ n1_; (try clear hb); (try clear hb2); (try clear hk); (try clear hi)))
      go_ret
      exact ⟨by first | rfl | (simp [errW_none, errW_some] <;> rfl) | (simp [*, errW_none, errW_some] <;> rfl), by repeat (first | (with_reducible first | exact HB.out | apply below_alloc | apply pw_below_drewN | apply below_drew1 | refine below_set ?_ GE126.out) | exact HB.out)⟩
    · rw [if_neg c11] at H
      have c11b0 : (t141 != t134) = false := by simpa using c11
      (try (have c11b1 : decide (t141 = t134) = true := by simpa using c11))
      (try (have c11b2 : (t141 == t134) = true := by simpa using c11))
      clear c11
      obtain rfl := Option.some.inj H
      go_enter Tryd.func3, Tryd.ntmps3
      go_wp2_with (first | ((with_reducible refine gate_dst (N := 1) rfl ?_); refine box_event ?hg (N := 1) ?hd (cs := #[.int .i64 a0_0, .int .i64 a0_1, .int .i64 a0_2, .string a0_3, .string a0_4, .int .i64 a0_5]) (t := 23) ?hr ?_; (case hd => rfl); (case hg => rfl); (case hr => first | (go_simp; done) | (go_simp; rfl)); intro gb126 hg w21 hbox hb; have n0_ := Aside0.mk (below_step (by repeat (first | (with_reducible first | exact HB.out | apply below_alloc | apply pw_below_drewN | apply below_drew1) | exact HB.out)) hb); have n1_ := Aside0.mk (hbox); have n2_ := Aside0.mk ((by rw [hg]; exact (below_size (by repeat (first | (with_reducible first | exact HB.out | apply below_alloc | apply pw_below_drewN | apply below_drew1) | exact HB.out))) : w.heap.size ≤ gb126)); have n3_ := Aside0.mk ((by rw [hg]; exact (below_size (by repeat (first | (with_reducible first | exact HB.out | apply below_alloc | apply pw_below_drewN | apply below_drew1) | exact HB.out))) : w.heap.size ≤ gb126)); clear HB; have HB := n0_; have BK126 := n1_; have GW126 := n2_; have GE126 := n3_; clear n0_ n1_ n2_ n3_; clear hb hbox hg; have hcz22_0 : w21.cell? ⟨gb126, 0, none⟩ = some (.int .i64 a0_0) := (blk_cell BK126.out 0).trans rfl; have hcz22_1 : w21.cell? ⟨gb126, 1, none⟩ = some (.int .i64 a0_1) := (blk_cell BK126.out 1).trans rfl; have hcz22_2 : w21.cell? ⟨gb126, 2, none⟩ = some (.int .i64 a0_2) := (blk_cell BK126.out 2).trans rfl; have hcz22_3 : w21.cell? ⟨gb126, 3, none⟩ = some (.string a0_3) := (blk_cell BK126.out 3).trans rfl; have hcz22_4 : w21.cell? ⟨gb126, 4, none⟩ = some (.string a0_4) := (blk_cell BK126.out 4).trans rfl; have hcz22_5 : w21.cell? ⟨gb126, 5, none⟩ = some (.int .i64 a0_5) := (blk_cell BK126.out 5).trans rfl; have hfz22_0 := blk_frozen BK126.out 0; have hfz22_1 := blk_frozen BK126.out 1; have hfz22_2 := blk_frozen BK126.out 2; have hfz22_3 := blk_frozen BK126.out 3; have hfz22_4 := blk_frozen BK126.out 4; have hfz22_5 := blk_frozen BK126.out 5) | ((with_reducible refine gate_callee (f := 5) rfl ?_); refine goesL_ (some 8) rfl rfl Tryd.func5 (by kernel_rfl) rfl #[.agg #[.int .i64 a0_0, .int .i64 a0_1, .int .i64 a0_2, .string a0_3, .string a0_4, .int .i64 a0_5], .int .i64 1048576] rfl (by (try simp only [List.map_toArray, List.map_cons, List.map_nil]); first | done | rfl | (simp only [List.length_drop, List.length_take]; rfl)) ?_; (with_reducible refine (laws_szSky.calls a0_0 a0_1 a0_2 a0_3 a0_4 a0_5 1048576 t127 _ A2.out).mono ?_); rintro e w23 ⟨rfl, hb⟩; refine ⟨_, rfl, ?_⟩; have n0_ := Aside0.mk (blk_below (g := gb126) (o := .cells #[.int .i64 a0_0, .int .i64 a0_1, .int .i64 a0_2, .string a0_3, .string a0_4, .int .i64 a0_5] 23 (0, 0)) (by (with_reducible repeat (first | refine blk_drewN ?_ _ | refine blk_drew ?_ | refine blk_alloc ?_ _)); exact BK126.out) hb); have n1_ := Aside0.mk (below_step (by repeat (first | (with_reducible first | exact HB.out | apply below_alloc | apply pw_below_drewN | apply below_drew1 | refine below_set ?_ GE126.out) | exact HB.out)) hb); clear BK126; clear HB; have BK126 := n0_; have HB := n1_; clear n0_ n1_; (try clear hb); (try clear hb2); (try clear hk); (try clear hi); have hcz24_0 : w23.cell? ⟨gb126, 0, none⟩ = some (.int .i64 a0_0) := (blk_cell BK126.out 0).trans rfl; have hcz24_1 : w23.cell? ⟨gb126, 1, none⟩ = some (.int .i64 a0_1) := (blk_cell BK126.out 1).trans rfl; have hcz24_2 : w23.cell? ⟨gb126, 2, none⟩ = some (.int .i64 a0_2) := (blk_cell BK126.out 2).trans rfl; have hcz24_3 : w23.cell? ⟨gb126, 3, none⟩ = some (.string a0_3) := (blk_cell BK126.out 3).trans rfl; have hcz24_4 : w23.cell? ⟨gb126, 4, none⟩ = some (.string a0_4) := (blk_cell BK126.out 4).trans rfl; have hcz24_5 : w23.cell? ⟨gb126, 5, none⟩ = some (.int .i64 a0_5) := (blk_cell BK126.out 5).trans rfl; have hfz24_0 := blk_frozen BK126.out 0; have hfz24_1 := blk_frozen BK126.out 1; have hfz24_2 := blk_frozen BK126.out 2; have hfz24_3 := blk_frozen BK126.out 3; have hfz24_4 := blk_frozen BK126.out 4; have hfz24_5 := blk_frozen BK126.out 5) | ((with_reducible refine gate_callee (f := 7) rfl ?_); refine goesL_ (some 12) rfl rfl Tryd.func7 (by kernel_rfl) rfl #[.agg #[.int .i64 a0_0, .int .i64 a0_1, .int .i64 a0_2, .string a0_3, .string a0_4, .int .i64 a0_5]] rfl (by (try simp only [List.map_toArray, List.map_cons, List.map_nil]); first | done | rfl | (simp only [List.length_drop, List.length_take]; rfl)) ?_; (with_reducible refine (laws_toSky.calls a0_0 a0_1 a0_2 a0_3 a0_4 a0_5 t128 t129 t130 t131 t132 t133 _ A7.out).mono ?_); rintro e w25 ⟨rfl, hb⟩; refine ⟨_, rfl, ?_⟩; have n0_ := Aside0.mk (blk_below (g := gb126) (o := .cells #[.int .i64 a0_0, .int .i64 a0_1, .int .i64 a0_2, .string a0_3, .string a0_4, .int .i64 a0_5] 23 (0, 0)) (by (with_reducible repeat (first | refine blk_drewN ?_ _ | refine blk_drew ?_ | refine blk_alloc ?_ _)); exact BK126.out) hb); have n1_ := Aside0.mk (below_step (by repeat (first | (with_reducible first | exact HB.out | apply below_alloc | apply pw_below_drewN | apply below_drew1 | refine below_set ?_ GE126.out) | exact HB.out)) hb); clear BK126; clear HB; have BK126 := n0_; have HB := n1_; clear n0_ n1_; (try clear hb); (try clear hb2); (try clear hk); (try clear hi)) | ((with_reducible refine gate_callee (f := 6) rfl ?_); refine goesL_ (some 13) rfl rfl Tryd.func6 (by kernel_rfl) rfl #[.agg #[.int .i64 t128, .int .i64 t129, .int .i64 t130, .string t131, .string t132, .int .i64 t133]] rfl (by (try simp only [List.map_toArray, List.map_cons, List.map_nil]); first | done | rfl | (simp only [List.length_drop, List.length_take]; rfl)) ?_; (with_reducible refine (spec_SkyOk.calls k t128 t129 t130 t131 t132 t133 t134 _ A8.out).mono ?_); rintro e w26 ⟨rfl, hb⟩; refine ⟨_, rfl, ?_⟩; have n0_ := Aside0.mk (blk_below (g := gb126) (o := .cells #[.int .i64 a0_0, .int .i64 a0_1, .int .i64 a0_2, .string a0_3, .string a0_4, .int .i64 a0_5] 23 (0, 0)) (by (with_reducible repeat (first | refine blk_drewN ?_ _ | refine blk_drew ?_ | refine blk_alloc ?_ _)); exact BK126.out) hb); have n1_ := Aside0.mk (below_step (by repeat (first | (with_reducible first | exact HB.out | apply below_alloc | apply pw_below_drewN | apply below_drew1 | refine below_set ?_ GE126.out) | exact HB.out)) hb); clear BK126; clear HB; have BK126 := n0_; have HB := n1_; clear n0_ n1_; (try clear hb); (try clear hb2); (try clear hk); (try clear hi); have hcz27_0 : w26.cell? ⟨gb126, 0, none⟩ = some (.int .i64 a0_0) := (blk_cell BK126.out 0).trans rfl; have hcz27_1 : w26.cell? ⟨gb126, 1, none⟩ = some (.int .i64 a0_1) := (blk_cell BK126.out 1).trans rfl; have hcz27_2 : w26.cell? ⟨gb126, 2, none⟩ = some (.int .i64 a0_2) := (blk_cell BK126.out 2).trans rfl; have hcz27_3 : w26.cell? ⟨gb126, 3, none⟩ = some (.string a0_3) := (blk_cell BK126.out 3).trans rfl; have hcz27_4 : w26.cell? ⟨gb126, 4, none⟩ = some (.string a0_4) := (blk_cell BK126.out 4).trans rfl; have hcz27_5 : w26.cell? ⟨gb126, 5, none⟩ = some (.int .i64 a0_5) := (blk_cell BK126.out 5).trans rfl; have hfz27_0 := blk_frozen BK126.out 0; have hfz27_1 := blk_frozen BK126.out 1; have hfz27_2 := blk_frozen BK126.out 2; have hfz27_3 := blk_frozen BK126.out 3; have hfz27_4 := blk_frozen BK126.out 4; have hfz27_5 := blk_frozen BK126.out 5) | ((with_reducible refine gate_callee (f := 7) rfl ?_); refine goesL_ (some 15) rfl rfl Tryd.func7 (by kernel_rfl) rfl #[.agg #[.int .i64 a0_0, .int .i64 a0_1, .int .i64 a0_2, .string a0_3, .string a0_4, .int .i64 a0_5]] rfl (by (try simp only [List.map_toArray, List.map_cons, List.map_nil]); first | done | rfl | (simp only [List.length_drop, List.length_take]; rfl)) ?_; (with_reducible refine (laws_toSky.calls a0_0 a0_1 a0_2 a0_3 a0_4 a0_5 t135 t136 t137 t138 t139 t140 _ A9.out).mono ?_); rintro e w28 ⟨rfl, hb⟩; refine ⟨_, rfl, ?_⟩; have n0_ := Aside0.mk (blk_below (g := gb126) (o := .cells #[.int .i64 a0_0, .int .i64 a0_1, .int .i64 a0_2, .string a0_3, .string a0_4, .int .i64 a0_5] 23 (0, 0)) (by (with_reducible repeat (first | refine blk_drewN ?_ _ | refine blk_drew ?_ | refine blk_alloc ?_ _)); exact BK126.out) hb); have n1_ := Aside0.mk (below_step (by repeat (first | (with_reducible first | exact HB.out | apply below_alloc | apply pw_below_drewN | apply below_drew1 | refine below_set ?_ GE126.out) | exact HB.out)) hb); clear BK126; clear HB; have BK126 := n0_; have HB := n1_; clear n0_ n1_; (try clear hb); (try clear hb2); (try clear hk); (try clear hi)) | ((with_reducible refine gate_callee (f := 8) rfl ?_); refine goesL_ (some 16) rfl rfl Tryd.func8 (by kernel_rfl) rfl #[.agg #[.int .i64 t135, .int .i64 t136, .int .i64 t137, .string t138, .string t139, .int .i64 t140]] rfl (by (try simp only [List.map_toArray, List.map_cons, List.map_nil]); first | done | rfl | (simp only [List.length_drop, List.length_take]; rfl)) ?_; (with_reducible refine (impl_SkyOk.calls k t135 t136 t137 t138 t139 t140 t141 _ (HGL.out.below (by repeat (first | (with_reducible first | exact HB.out | apply below_alloc | apply pw_below_drewN | apply below_drew1) | exact HB.out))) A10.out).mono ?_); rintro e w29 ⟨rfl, hb⟩; refine ⟨_, rfl, ?_⟩; have n0_ := Aside0.mk (blk_below (g := gb126) (o := .cells #[.int .i64 a0_0, .int .i64 a0_1, .int .i64 a0_2, .string a0_3, .string a0_4, .int .i64 a0_5] 23 (0, 0)) (by (with_reducible repeat (first | refine blk_drewN ?_ _ | refine blk_drew ?_ | refine blk_alloc ?_ _)); exact BK126.out) hb); have n1_ := Aside0.mk (below_step (by repeat (first | (with_reducible first | exact HB.out | apply below_alloc | apply pw_below_drewN | apply below_drew1 | refine below_set ?_ GE126.out) | exact HB.out)) hb); clear BK126; clear HB; have BK126 := n0_; have HB := n1_; clear n0_ n1_; (try clear hb); (try clear hb2); (try clear hk); (try clear hi)))
      go_ret
      exact ⟨by first | rfl | (simp [errW_none, errW_some] <;> rfl) | (simp [*, errW_none, errW_some] <;> rfl), by repeat (first | (with_reducible first | exact HB.out | apply below_alloc | apply pw_below_drewN | apply below_drew1 | refine below_set ?_ GE126.out) | exact HB.out)⟩

end Go.Proofs.YtoghojneidpkkaaDoor.PFnExactSkyOk
