/- In. (Printed by genr6.py.). -/
import Derived.Test.YthgllnnlngihoaaGreatSz14
section
set_option linter.unusedVariables false
set_option linter.unusedSimpArgs false
set_option maxRecDepth 100000
namespace Go.Proofs.YthgllnnlngihoaaGreat.Sx
open Go.RowKit

def spExt1 : Spec := fun args M base => match args with
  | [.agg [.i .i64 st, .i .i64 pl, .i .i64 sk, c, d], .one (.i .i64 most)] => ⟨In fun _ => (okLife M c d ∧ RunOk st.val pl.val sk.val (sights M c) (notes M d)) ∧ anyE st.val pl.val sk.val (sights M c) (notes M d) most.val (3 ^ ((sights M c).length - 1)) = true, .one (.ref base), [boxRowT fun _ => extB st.val pl.val sk.val (sights M c) (notes M d) most.val (3 ^ ((sights M c).length - 1))], [], (seen M c).reads ++ (seen M d).reads⟩
  | _ => bad
theorem okExt1 : SpecOk F0 Tryz.prog 103 spExt1 := by
  refine spec_genM 7 (fn := Tryz.f103) (c := fbody Tryz.f103) (by kernel_rfl) rfl rfl (by kernel_rfl) (fun args M M' base hs h => by
    unfold spExt1 at *
    split at hs
    · simp only [okLife, okSights, okNotes, sights, notes] at h ⊢
      rw [seen_congr (M := M) (M' := M') (fun i hi => h i (List.mem_append_left _ hi)), seen_congr (M := M) (M' := M') (fun i hi => h i (List.mem_append_right _ hi))]
    · exact hs.elim) fun args M base hs => ?_
  unfold spExt1 at hs ⊢
  split at hs
  · rename_i st pl sk c d most
    exact ⟨[], fun r => Nat.beq r 2, [.agg [.i .i64 (.sy fun _ => st.val), .i .i64 (.sy fun _ => pl.val), .i .i64 (.sy fun _ => sk.val), .ref 0, .ref 1], .one (.i .i64 (.sy fun _ => most.val))], [sightRow .ro (sights M c), noteRow .ro (notes M d)], fun base => .one (.ref base), fun _ => [boxRowT fun _ => extB st.val pl.val sk.val (sights M c) (notes M d) most.val (3 ^ ((sights M c).length - 1))], trivial, Nat.le_of_ble_eq_true rfl, ⟨rfl, trivial⟩, .val rfl (.val rfl (.val rfl (.row (sight_from hs.ok.1.1.1) (.row (note_from hs.ok.1.1.2.1) (.val rfl .nil))))), rfl, rfl, rfl, (tauN_at (t := 0) (Nat.zero_lt_one : 0 < 1)), ⟨rowOf_le boxCod .own _ _, trivial⟩, own1 rfl, ext_vc hs.ok.1.2 true hs.ok.2⟩
  · exact hs.elim
def spExt0 : Spec := fun args M base => match args with
  | [.agg [.i .i64 st, .i .i64 pl, .i .i64 sk, c, d], .one (.i .i64 most)] => ⟨In fun _ => (okLife M c d ∧ RunOk st.val pl.val sk.val (sights M c) (notes M d)) ∧ anyE st.val pl.val sk.val (sights M c) (notes M d) most.val (3 ^ ((sights M c).length - 1)) = false, .one (.c (.slice none 0 0)), [], [], (seen M c).reads ++ (seen M d).reads⟩
  | _ => bad
theorem okExt0 : SpecOk F0 Tryz.prog 103 spExt0 := by
  refine spec_genM 7 (fn := Tryz.f103) (c := fbody Tryz.f103) (by kernel_rfl) rfl rfl (by kernel_rfl) (fun args M M' base hs h => by
    unfold spExt0 at *
    split at hs
    · simp only [okLife, okSights, okNotes, sights, notes] at h ⊢
      rw [seen_congr (M := M) (M' := M') (fun i hi => h i (List.mem_append_left _ hi)), seen_congr (M := M) (M' := M') (fun i hi => h i (List.mem_append_right _ hi))]
    · exact hs.elim) fun args M base hs => ?_
  unfold spExt0 at hs ⊢
  split at hs
  · rename_i st pl sk c d most
    exact ⟨[], fun r => Nat.beq r 2, [.agg [.i .i64 (.sy fun _ => st.val), .i .i64 (.sy fun _ => pl.val), .i .i64 (.sy fun _ => sk.val), .ref 0, .ref 1], .one (.i .i64 (.sy fun _ => most.val))], [sightRow .ro (sights M c), noteRow .ro (notes M d)], fun base => .one (.c (.slice none 0 0)), fun _ => [], trivial, Nat.le_of_ble_eq_true rfl, ⟨rfl, trivial⟩, .val rfl (.val rfl (.val rfl (.row (sight_from hs.ok.1.1.1) (.row (note_from hs.ok.1.1.2.1) (.val rfl .nil))))), rfl, rfl, rfl, rfl, trivial, (fun ob h => by cases h), ext_vc hs.ok.1.2 false hs.ok.2⟩
  · exact hs.elim

section
variable (st pl sk : Int) (ss : List SightD) (ns : List NoteD) (y most : Int)
def outB : Bool := decide (y < yearAt ss 0) || decide (yearAt ss (ss.length - 1) < y)
def inE : Int := bif decide (checkE st pl sk ss ns = 0) then (bif decide (most < 0) then 1 else bif outB ss y then 5 else bif anyE st pl sk ss ns most (3 ^ (ss.length - 1)) then 0 else 9) else checkE st pl sk ss ns
def inX : BoxD := bif decide (inE st pl sk ss ns y most = 0) then (bif decide (yearAt ss (firstFrom ss y).toNat = y) then (extB st pl sk ss ns most (3 ^ (ss.length - 1))).getD (firstFrom ss y).toNat boxD else coverD ((extB st pl sk ss ns most (3 ^ (ss.length - 1))).getD ((firstFrom ss y).toNat - 1) boxD) ((extB st pl sk ss ns most (3 ^ (ss.length - 1))).getD (firstFrom ss y).toNat boxD)) else boxD
end
theorem first_spec {ss : List SightD} {y : Int} (hn : 0 < ss.length) (hy : y ≤ yearAt ss (ss.length - 1)) : ∃ q, q < ss.length ∧ firstFrom ss y = (q : Int) ∧ y ≤ yearAt ss q ∧ ∀ j, j < q → yearAt ss j < y := by
  obtain ⟨q, ⟨h1, h2⟩, h3⟩ := least_nat (p := fun j => j < ss.length ∧ y ≤ yearAt ss j) (ss.length - 1) ⟨by omega, hy⟩
  have hl : ∀ j, j < q → yearAt ss j < y := fun j hj => by
    rcases Int.lt_or_le (yearAt ss j) y with h4 | h4
    · exact h4
    · have := h3 j ⟨by omega, h4⟩
      omega
  exact ⟨q, h1, firstFrom_some h1 (decide_eq_true h2) fun j hj => decide_eq_false (by have := hl j hj; omega), h2, hl⟩
/-- The first sight from a year on, given. -/
def spFirstAt (x : IX) : Spec := fun args M _ => match args with
  | [.one c, .one (.ref g)] => match M g with
    | some (.clo (.func f) [] [.ref b]) => match M b with
      | some (.box _ _ [.i .i64 y]) => ⟨isT (Nat.beq f 106) ∧ In fun _ => (okSights M c ∧ (sights M c).length ≤ 140737488355328) ∧ firstFrom (sights M c) y.val = x.val, cint .i64 x, [], [], g :: b :: (seen M c).reads⟩
      | _ => bad
    | _ => bad
  | _ => bad
theorem okFirstAt (x : IX) : SpecOk F0 Tryz.prog 105 (spFirstAt x) := by
  refine okFirst.reword (fun args M M' base hs h => ?_) fun args M base hs => ?_
  · unfold spFirstAt at *
    split at hs
    · simp only at h hs ⊢
      split at hs
      · rename_i h1
        split at hs
        · rename_i h2
          simp only [h1, h2] at h
          have e1 := h _ (List.mem_cons_self ..)
          have e2 := h _ (List.mem_cons_of_mem _ (List.mem_cons_self ..))
          rw [e1, h1]
          simp only
          rw [e2, h2]
          simp only [okSights, sights]
          rw [seen_congr (M := M) (M' := M') (fun i hi => h i (List.mem_cons_of_mem _ (List.mem_cons_of_mem _ hi)))]
        · exact hs.elim
      · exact hs.elim
    · exact hs.elim
  · unfold spFirstAt at hs ⊢
    split at hs
    · simp only at hs ⊢
      split at hs
      · rename_i h1
        split at hs
        · rename_i h2
          obtain ⟨k1, k2⟩ := hs
          obtain ⟨k2, k3⟩ := k2.ok
          unfold spFirst
          simp only [h1, h2]
          refine ⟨⟨k1, ⟨k2⟩⟩, fun σ v hv => ?_, trivial, trivial⟩
          obtain ⟨k4, k5⟩ := hv
          refine ⟨k4, ?_⟩
          have k5 : v = .int .i64 (firstFrom (sights M _) _) := k5
          show v = .int .i64 x.val
          rw [k5, k3]
        · exact hs.elim
      · exact hs.elim
    · exact hs.elim
theorem in_vc0 {st pl sk : Int} {ss : List SightD} {ns : List NoteD} {y most : Int} (hsz : ss.length ≤ 140737488355328) (hnz : ns.length ≤ 140737488355328) (hb : anyE st pl sk ss ns most (3 ^ (ss.length - 1)) = false) (B : Nat) :
    vc (en [(23, spCheck), (103, spExt0), (105, spFirstAt (.lit 0)), (106, spSeen1), (49, spCover)]) ⟨fun _ => none, B, fun _ => False, Tryz.f46.ntmps, none⟩ (fbody Tryz.f46) (start [.agg [.i .i64 (.sy fun _ => st), .i .i64 (.sy fun _ => pl), .i .i64 (.sy fun _ => sk), .ref 0, .ref 1], .one (.i .i64 (.sy fun _ => y)), .one (.i .i64 (.sy fun _ => most))] [sightRow .ro ss, noteRow .ro ns])
      fun x s => isRet x ∧ (resultI tab Tryz.f46.results.toList s.S.get (lget s.M)).1 ∧ IvLe (fun _ => none) (resultI tab Tryz.f46.results.toList s.S.get (lget s.M)).2 (.tup [.agg [.i .i64 (.sy fun _ => (inX st pl sk ss ns y most).x0), .i .i64 (.sy fun _ => (inX st pl sk ss ns y most).x1), .i .i64 (.sy fun _ => (inX st pl sk ss ns y most).y0), .i .i64 (.sy fun _ => (inX st pl sk ss ns y most).y1)], .one (.i .i64 (.sy fun _ => inE st pl sk ss ns y most))]) := by
  cbv
  simp only [implies_true, and_true, true_and, IX.v_lit, IX.v_nat, IX.v_sy, BX.v_lit, BX.v_sy, NX.v_lit, NX.v_sy, addN, in_true, eq_self, Nat.succ_eq_add_one, intD_eq, encInt_le, encText_le, encSpan_le, encPair_le, encBox_le, encNote_le, encSight_le, cell_i_le, Nat.add_zero, Int.toNat_natCast, Nat.lt_irrefl, if_false, and_self, ncast, imp_self, in_self, in_self2, in_and, Int.cast_ofNat_Int, in_and2, noT, noF]
  simp only [in_true, eq_self, and_true, true_and, ints, texts, spans, pairs, boxs, notes, sights, seen, lget, reduceIte, Nat.reduceEqDiff, reduceCtorEq, Nat.succ_ne_self, Nat.zero_ne_one, Nat.one_ne_zero, int_row0, int_row, text_row, span_row, pair_row, box_row, note_row, sight_row]
  refine ⟨⟨life_at rfl rfl hsz hnz⟩, fun h => ?_, fun h => ?_⟩
  · have h : checkE st pl sk ss ns ≠ 0 := of_decide_eq_false h
    cbv
    simp only [implies_true, and_true, true_and, IX.v_lit, IX.v_nat, IX.v_sy, BX.v_lit, BX.v_sy, NX.v_lit, NX.v_sy, addN, in_true, eq_self, Nat.succ_eq_add_one, intD_eq, encInt_le, encText_le, encSpan_le, encPair_le, encBox_le, encNote_le, encSight_le, cell_i_le, Nat.add_zero, Int.toNat_natCast, Nat.lt_irrefl, if_false, and_self, ncast, imp_self, in_self, in_self2, in_and, Int.cast_ofNat_Int, in_and2, ltB_t, ltB_f, leB_t, leB_f, eqB_t, eqB_f, ltNB_t, ltNB_f, leNB_t, leNB_f, eqNB_t, eqNB_f, noT, noF, Bool.and_eq_true, Bool.or_eq_true, Bool.and_eq_false_iff, Bool.or_eq_false_iff]
    have hE : inE st pl sk ss ns y most = checkE st pl sk ss ns := by unfold inE; rw [decide_eq_false h]; rfl
    have hX : inX st pl sk ss ns y most = boxD := by unfold inX; rw [hE, decide_eq_false h]; rfl
    exact ⟨⟨⟨by rw [hX]; rfl⟩, ⟨by rw [hX]; rfl⟩, ⟨by rw [hX]; rfl⟩, ⟨by rw [hX]; rfl⟩⟩, ⟨hE⟩⟩
  · have h : checkE st pl sk ss ns = 0 := of_decide_eq_true h
    have hR := runOk_of_check h
    have hn := hR.pos
    have hn9 := hR.few
    have hns := hR.notes
    cbv
    refine ⟨fun h1 => ?_, fun h1 => ?_⟩
    · have h1 : most < 0 := ltB_t.mp h1
      cbv
      simp only [implies_true, and_true, true_and, IX.v_lit, IX.v_nat, IX.v_sy, BX.v_lit, BX.v_sy, NX.v_lit, NX.v_sy, addN, in_true, eq_self, Nat.succ_eq_add_one, intD_eq, encInt_le, encText_le, encSpan_le, encPair_le, encBox_le, encNote_le, encSight_le, cell_i_le, Nat.add_zero, Int.toNat_natCast, Nat.lt_irrefl, if_false, and_self, ncast, imp_self, in_self, in_self2, in_and, Int.cast_ofNat_Int, in_and2, ltB_t, ltB_f, leB_t, leB_f, eqB_t, eqB_f, ltNB_t, ltNB_f, leNB_t, leNB_f, eqNB_t, eqNB_f, noT, noF, Bool.and_eq_true, Bool.or_eq_true, Bool.and_eq_false_iff, Bool.or_eq_false_iff]
      have hE : inE st pl sk ss ns y most = 1 := by unfold inE; rw [decide_eq_true h, decide_eq_true h1]; rfl
      have hX : inX st pl sk ss ns y most = boxD := by unfold inX; rw [hE]; rfl
      exact ⟨⟨⟨by rw [hX]; rfl⟩, ⟨by rw [hX]; rfl⟩, ⟨by rw [hX]; rfl⟩, ⟨by rw [hX]; rfl⟩⟩, ⟨hE⟩⟩
    · have h1 : 0 ≤ most := ltB_f.mp h1
      cbv
      simp only [implies_true, and_true, true_and, IX.v_lit, IX.v_nat, IX.v_sy, BX.v_lit, BX.v_sy, NX.v_lit, NX.v_sy, addN, in_true, eq_self, Nat.succ_eq_add_one, intD_eq, encInt_le, encText_le, encSpan_le, encPair_le, encBox_le, encNote_le, encSight_le, cell_i_le, Nat.add_zero, Int.toNat_natCast, Nat.lt_irrefl, if_false, and_self, ncast, imp_self, in_self, in_self2, in_and, Int.cast_ofNat_Int, in_and2, noT, noF]
      refine ⟨⟨by omega⟩, ⟨by omega⟩, fun _ => ⟨by unfold fitsK; omega⟩, fun _ => ⟨⟨by omega⟩, ⟨by omega⟩⟩, fun _ => ⟨by omega⟩, fun h2 => ?_, fun h2 => ?_⟩
      · have h2 : (ltB y (yearAt ss 0) || ltB (yearAt ss ((ss.length : Int) - 1).toNat) y) = true := by
          revert h2
          cases ss with
          | nil => exact absurd hn (by simp)
          | cons a t => exact fun h => h
        have hout : outB ss y = true := by
          unfold outB ltB at *
          rw [show ((ss.length : Int) - 1).toNat = ss.length - 1 by omega] at h2
          exact h2
        cbv
        simp only [implies_true, and_true, true_and, IX.v_lit, IX.v_nat, IX.v_sy, BX.v_lit, BX.v_sy, NX.v_lit, NX.v_sy, addN, in_true, eq_self, Nat.succ_eq_add_one, intD_eq, encInt_le, encText_le, encSpan_le, encPair_le, encBox_le, encNote_le, encSight_le, cell_i_le, Nat.add_zero, Int.toNat_natCast, Nat.lt_irrefl, if_false, and_self, ncast, imp_self, in_self, in_self2, in_and, Int.cast_ofNat_Int, in_and2, ltB_t, ltB_f, leB_t, leB_f, eqB_t, eqB_f, ltNB_t, ltNB_f, leNB_t, leNB_f, eqNB_t, eqNB_f, noT, noF, Bool.and_eq_true, Bool.or_eq_true, Bool.and_eq_false_iff, Bool.or_eq_false_iff]
        have hE : inE st pl sk ss ns y most = 5 := by unfold inE; rw [decide_eq_true h, decide_eq_false (by omega), hout]; rfl
        have hX : inX st pl sk ss ns y most = boxD := by unfold inX; rw [hE]; rfl
        exact ⟨⟨⟨by rw [hX]; rfl⟩, ⟨by rw [hX]; rfl⟩, ⟨by rw [hX]; rfl⟩, ⟨by rw [hX]; rfl⟩⟩, ⟨hE⟩⟩
      · have h2 : (ltB y (yearAt ss 0) || ltB (yearAt ss ((ss.length : Int) - 1).toNat) y) = false := by
          revert h2
          cases ss with
          | nil => exact absurd hn (by simp)
          | cons a t => exact fun h => h
        have hout : outB ss y = false := by
          unfold outB ltB at *
          rw [show ((ss.length : Int) - 1).toNat = ss.length - 1 by omega] at h2
          exact h2
        cbv
        simp only [implies_true, and_true, true_and, IX.v_lit, IX.v_nat, IX.v_sy, BX.v_lit, BX.v_sy, NX.v_lit, NX.v_sy, addN, in_true, eq_self, Nat.succ_eq_add_one, intD_eq, encInt_le, encText_le, encSpan_le, encPair_le, encBox_le, encNote_le, encSight_le, cell_i_le, Nat.add_zero, Int.toNat_natCast, Nat.lt_irrefl, if_false, and_self, ncast, imp_self, in_self, in_self2, in_and, Int.cast_ofNat_Int, in_and2, noT, noF]
        obtain ⟨N, hN⟩ : ∃ N, 3 ^ (ss.length - 1) = N := ⟨_, rfl⟩
        refine ⟨⟨run_side rfl rfl hR, by rw [(sights_at ss _ _ rfl).2, (notes_at ns _ _ rfl).2]; exact hb⟩, ?_⟩
        try simp only [in_true, eq_self, and_true, true_and, ints, texts, spans, pairs, boxs, notes, sights, seen, lget, reduceIte, Nat.reduceEqDiff, reduceCtorEq, Nat.succ_ne_self, Nat.zero_ne_one, Nat.one_ne_zero, int_row0, int_row, text_row, span_row, pair_row, box_row, note_row, sight_row]
        cbv
        try simp only [implies_true, and_true, true_and, IX.v_lit, IX.v_nat, IX.v_sy, BX.v_lit, BX.v_sy, NX.v_lit, NX.v_sy, addN, in_true, eq_self, Nat.succ_eq_add_one, intD_eq, encInt_le, encText_le, encSpan_le, encPair_le, encBox_le, encNote_le, encSight_le, cell_i_le, Nat.add_zero, Int.toNat_natCast, Nat.lt_irrefl, if_false, and_self, ncast, imp_self, in_self, in_self2, in_and, Int.cast_ofNat_Int, in_and2, ltB_t, ltB_f, leB_t, leB_f, eqB_t, eqB_f, ltNB_t, ltNB_f, leNB_t, leNB_f, eqNB_t, eqNB_f, noT, noF, Bool.and_eq_true, Bool.or_eq_true, Bool.and_eq_false_iff, Bool.or_eq_false_iff]
        have hE : inE st pl sk ss ns y most = 9 := by unfold inE; rw [decide_eq_true h, decide_eq_false (by omega), hout, hb]; rfl
        have hX : inX st pl sk ss ns y most = boxD := by unfold inX; rw [hE]; rfl
        exact ⟨⟨⟨by rw [hX]; rfl⟩, ⟨by rw [hX]; rfl⟩, ⟨by rw [hX]; rfl⟩, ⟨by rw [hX]; rfl⟩⟩, ⟨hE⟩⟩
theorem in_vc1 {st pl sk : Int} {ss : List SightD} {ns : List NoteD} {y most : Int} (hsz : ss.length ≤ 140737488355328) (hnz : ns.length ≤ 140737488355328) (hb : anyE st pl sk ss ns most (3 ^ (ss.length - 1)) = true) (hq0 : firstFrom ss y < 1) (B : Nat) :
    vc (en [(23, spCheck), (103, spExt1), (105, spFirstAt (.lit 0)), (106, spSeen1), (49, spCover)]) ⟨fun _ => none, B, fun _ => False, Tryz.f46.ntmps, none⟩ (fbody Tryz.f46) (start [.agg [.i .i64 (.sy fun _ => st), .i .i64 (.sy fun _ => pl), .i .i64 (.sy fun _ => sk), .ref 0, .ref 1], .one (.i .i64 (.sy fun _ => y)), .one (.i .i64 (.sy fun _ => most))] [sightRow .ro ss, noteRow .ro ns])
      fun x s => isRet x ∧ (resultI tab Tryz.f46.results.toList s.S.get (lget s.M)).1 ∧ IvLe (fun _ => none) (resultI tab Tryz.f46.results.toList s.S.get (lget s.M)).2 (.tup [.agg [.i .i64 (.sy fun _ => (inX st pl sk ss ns y most).x0), .i .i64 (.sy fun _ => (inX st pl sk ss ns y most).x1), .i .i64 (.sy fun _ => (inX st pl sk ss ns y most).y0), .i .i64 (.sy fun _ => (inX st pl sk ss ns y most).y1)], .one (.i .i64 (.sy fun _ => inE st pl sk ss ns y most))]) := by
  cbv
  simp only [implies_true, and_true, true_and, IX.v_lit, IX.v_nat, IX.v_sy, BX.v_lit, BX.v_sy, NX.v_lit, NX.v_sy, addN, in_true, eq_self, Nat.succ_eq_add_one, intD_eq, encInt_le, encText_le, encSpan_le, encPair_le, encBox_le, encNote_le, encSight_le, cell_i_le, Nat.add_zero, Int.toNat_natCast, Nat.lt_irrefl, if_false, and_self, ncast, imp_self, in_self, in_self2, in_and, Int.cast_ofNat_Int, in_and2, noT, noF]
  simp only [in_true, eq_self, and_true, true_and, ints, texts, spans, pairs, boxs, notes, sights, seen, lget, reduceIte, Nat.reduceEqDiff, reduceCtorEq, Nat.succ_ne_self, Nat.zero_ne_one, Nat.one_ne_zero, int_row0, int_row, text_row, span_row, pair_row, box_row, note_row, sight_row]
  refine ⟨⟨life_at rfl rfl hsz hnz⟩, fun h => ?_, fun h => ?_⟩
  · have h : checkE st pl sk ss ns ≠ 0 := of_decide_eq_false h
    cbv
    simp only [implies_true, and_true, true_and, IX.v_lit, IX.v_nat, IX.v_sy, BX.v_lit, BX.v_sy, NX.v_lit, NX.v_sy, addN, in_true, eq_self, Nat.succ_eq_add_one, intD_eq, encInt_le, encText_le, encSpan_le, encPair_le, encBox_le, encNote_le, encSight_le, cell_i_le, Nat.add_zero, Int.toNat_natCast, Nat.lt_irrefl, if_false, and_self, ncast, imp_self, in_self, in_self2, in_and, Int.cast_ofNat_Int, in_and2, ltB_t, ltB_f, leB_t, leB_f, eqB_t, eqB_f, ltNB_t, ltNB_f, leNB_t, leNB_f, eqNB_t, eqNB_f, noT, noF, Bool.and_eq_true, Bool.or_eq_true, Bool.and_eq_false_iff, Bool.or_eq_false_iff]
    have hE : inE st pl sk ss ns y most = checkE st pl sk ss ns := by unfold inE; rw [decide_eq_false h]; rfl
    have hX : inX st pl sk ss ns y most = boxD := by unfold inX; rw [hE, decide_eq_false h]; rfl
    exact ⟨⟨⟨by rw [hX]; rfl⟩, ⟨by rw [hX]; rfl⟩, ⟨by rw [hX]; rfl⟩, ⟨by rw [hX]; rfl⟩⟩, ⟨hE⟩⟩
  · have h : checkE st pl sk ss ns = 0 := of_decide_eq_true h
    have hR := runOk_of_check h
    have hn := hR.pos
    have hn9 := hR.few
    have hns := hR.notes
    cbv
    refine ⟨fun h1 => ?_, fun h1 => ?_⟩
    · have h1 : most < 0 := ltB_t.mp h1
      cbv
      simp only [implies_true, and_true, true_and, IX.v_lit, IX.v_nat, IX.v_sy, BX.v_lit, BX.v_sy, NX.v_lit, NX.v_sy, addN, in_true, eq_self, Nat.succ_eq_add_one, intD_eq, encInt_le, encText_le, encSpan_le, encPair_le, encBox_le, encNote_le, encSight_le, cell_i_le, Nat.add_zero, Int.toNat_natCast, Nat.lt_irrefl, if_false, and_self, ncast, imp_self, in_self, in_self2, in_and, Int.cast_ofNat_Int, in_and2, ltB_t, ltB_f, leB_t, leB_f, eqB_t, eqB_f, ltNB_t, ltNB_f, leNB_t, leNB_f, eqNB_t, eqNB_f, noT, noF, Bool.and_eq_true, Bool.or_eq_true, Bool.and_eq_false_iff, Bool.or_eq_false_iff]
      have hE : inE st pl sk ss ns y most = 1 := by unfold inE; rw [decide_eq_true h, decide_eq_true h1]; rfl
      have hX : inX st pl sk ss ns y most = boxD := by unfold inX; rw [hE]; rfl
      exact ⟨⟨⟨by rw [hX]; rfl⟩, ⟨by rw [hX]; rfl⟩, ⟨by rw [hX]; rfl⟩, ⟨by rw [hX]; rfl⟩⟩, ⟨hE⟩⟩
    · have h1 : 0 ≤ most := ltB_f.mp h1
      cbv
      simp only [implies_true, and_true, true_and, IX.v_lit, IX.v_nat, IX.v_sy, BX.v_lit, BX.v_sy, NX.v_lit, NX.v_sy, addN, in_true, eq_self, Nat.succ_eq_add_one, intD_eq, encInt_le, encText_le, encSpan_le, encPair_le, encBox_le, encNote_le, encSight_le, cell_i_le, Nat.add_zero, Int.toNat_natCast, Nat.lt_irrefl, if_false, and_self, ncast, imp_self, in_self, in_self2, in_and, Int.cast_ofNat_Int, in_and2, noT, noF]
      refine ⟨⟨by omega⟩, ⟨by omega⟩, fun _ => ⟨by unfold fitsK; omega⟩, fun _ => ⟨⟨by omega⟩, ⟨by omega⟩⟩, fun _ => ⟨by omega⟩, fun h2 => ?_, fun h2 => ?_⟩
      · have h2 : (ltB y (yearAt ss 0) || ltB (yearAt ss ((ss.length : Int) - 1).toNat) y) = true := by
          revert h2
          cases ss with
          | nil => exact absurd hn (by simp)
          | cons a t => exact fun h => h
        have hout : outB ss y = true := by
          unfold outB ltB at *
          rw [show ((ss.length : Int) - 1).toNat = ss.length - 1 by omega] at h2
          exact h2
        cbv
        simp only [implies_true, and_true, true_and, IX.v_lit, IX.v_nat, IX.v_sy, BX.v_lit, BX.v_sy, NX.v_lit, NX.v_sy, addN, in_true, eq_self, Nat.succ_eq_add_one, intD_eq, encInt_le, encText_le, encSpan_le, encPair_le, encBox_le, encNote_le, encSight_le, cell_i_le, Nat.add_zero, Int.toNat_natCast, Nat.lt_irrefl, if_false, and_self, ncast, imp_self, in_self, in_self2, in_and, Int.cast_ofNat_Int, in_and2, ltB_t, ltB_f, leB_t, leB_f, eqB_t, eqB_f, ltNB_t, ltNB_f, leNB_t, leNB_f, eqNB_t, eqNB_f, noT, noF, Bool.and_eq_true, Bool.or_eq_true, Bool.and_eq_false_iff, Bool.or_eq_false_iff]
        have hE : inE st pl sk ss ns y most = 5 := by unfold inE; rw [decide_eq_true h, decide_eq_false (by omega), hout]; rfl
        have hX : inX st pl sk ss ns y most = boxD := by unfold inX; rw [hE]; rfl
        exact ⟨⟨⟨by rw [hX]; rfl⟩, ⟨by rw [hX]; rfl⟩, ⟨by rw [hX]; rfl⟩, ⟨by rw [hX]; rfl⟩⟩, ⟨hE⟩⟩
      · have h2 : (ltB y (yearAt ss 0) || ltB (yearAt ss ((ss.length : Int) - 1).toNat) y) = false := by
          revert h2
          cases ss with
          | nil => exact absurd hn (by simp)
          | cons a t => exact fun h => h
        have hout : outB ss y = false := by
          unfold outB ltB at *
          rw [show ((ss.length : Int) - 1).toNat = ss.length - 1 by omega] at h2
          exact h2
        cbv
        simp only [implies_true, and_true, true_and, IX.v_lit, IX.v_nat, IX.v_sy, BX.v_lit, BX.v_sy, NX.v_lit, NX.v_sy, addN, in_true, eq_self, Nat.succ_eq_add_one, intD_eq, encInt_le, encText_le, encSpan_le, encPair_le, encBox_le, encNote_le, encSight_le, cell_i_le, Nat.add_zero, Int.toNat_natCast, Nat.lt_irrefl, if_false, and_self, ncast, imp_self, in_self, in_self2, in_and, Int.cast_ofNat_Int, in_and2, noT, noF]
        obtain ⟨N, hN⟩ : ∃ N, 3 ^ (ss.length - 1) = N := ⟨_, rfl⟩
        refine ⟨⟨run_side rfl rfl hR, by rw [(sights_at ss _ _ rfl).2, (notes_at ns _ _ rfl).2]; exact hb⟩, ?_⟩
        try simp only [in_true, eq_self, and_true, true_and, ints, texts, spans, pairs, boxs, notes, sights, seen, lget, reduceIte, Nat.reduceEqDiff, reduceCtorEq, Nat.succ_ne_self, Nat.zero_ne_one, Nat.one_ne_zero, int_row0, int_row, text_row, span_row, pair_row, box_row, note_row, sight_row]
        have hxl := extB_len (3 ^ (ss.length - 1)) hb
        have hE : inE st pl sk ss ns y most = 0 := by unfold inE; rw [decide_eq_true h, decide_eq_false (by omega), hout, hb]; rfl
        unfold outB at hout
        simp only [Bool.or_eq_false_iff, decide_eq_false_iff_not] at hout
        obtain ⟨ho1, ho2⟩ := hout
        obtain ⟨q', hq1, hq2, hq3, hq4⟩ := first_spec hn (by omega : y ≤ yearAt ss (ss.length - 1))
        have hq : firstFrom ss y = 0 := by (first | omega | (simp only [ncast] at *; omega))
        have hq' : q' = 0 := by rw [hq] at hq2; (first | omega | (simp only [ncast] at *; omega))
        subst hq'
        refine ⟨⟨show 1 ≤ (extB st pl sk ss ns most (3 ^ (ss.length - 1))).length by rw [hxl]; omega⟩, ⟨⟨(sights_at ss _ _ rfl).1, hsz⟩, hq⟩, ⟨by omega⟩, ⟨by omega⟩, fun h3 => ?_, fun h3 => ?_⟩
        · have h3 : yearAt ss 0 = y := of_decide_eq_true h3
          cbv
          simp only [implies_true, and_true, true_and, IX.v_lit, IX.v_nat, IX.v_sy, BX.v_lit, BX.v_sy, NX.v_lit, NX.v_sy, addN, in_true, eq_self, Nat.succ_eq_add_one, intD_eq, encInt_le, encText_le, encSpan_le, encPair_le, encBox_le, encNote_le, encSight_le, cell_i_le, Nat.add_zero, Int.toNat_natCast, Nat.lt_irrefl, if_false, and_self, ncast, imp_self, in_self, in_self2, in_and, Int.cast_ofNat_Int, in_and2, ltB_t, ltB_f, leB_t, leB_f, eqB_t, eqB_f, ltNB_t, ltNB_f, leNB_t, leNB_f, eqNB_t, eqNB_f, noT, noF, Bool.and_eq_true, Bool.or_eq_true, Bool.and_eq_false_iff, Bool.or_eq_false_iff]
          have hX : inX st pl sk ss ns y most = (extB st pl sk ss ns most (3 ^ (ss.length - 1))).getD 0 boxD := by
            have h4 : (firstFrom ss y).toNat = 0 := by rw [hq]; rfl
            unfold inX
            rw [hE, h4, decide_eq_true h3]
            rfl
          exact ⟨⟨by rw [hxl]; omega⟩, ⟨by rw [hxl]; omega⟩, ⟨⟨by rw [hX]⟩, ⟨by rw [hX]⟩, ⟨by rw [hX]⟩, ⟨by rw [hX]⟩⟩, ⟨hE⟩⟩
        · exact absurd (Int.le_antisymm (by omega) (by omega) : yearAt ss 0 = y) (of_decide_eq_false h3)
theorem in_vc2 {st pl sk : Int} {ss : List SightD} {ns : List NoteD} {y most : Int} (hsz : ss.length ≤ 140737488355328) (hnz : ns.length ≤ 140737488355328) (hb : anyE st pl sk ss ns most (3 ^ (ss.length - 1)) = true) (q : Nat) (hq : firstFrom ss y = ((q + 1 : Nat) : Int)) (B : Nat) :
    vc (en [(23, spCheck), (103, spExt1), (105, spFirstAt (.nat (fun _ => q) 1)), (106, spSeen1), (49, spCover)]) ⟨fun _ => none, B, fun _ => False, Tryz.f46.ntmps, none⟩ (fbody Tryz.f46) (start [.agg [.i .i64 (.sy fun _ => st), .i .i64 (.sy fun _ => pl), .i .i64 (.sy fun _ => sk), .ref 0, .ref 1], .one (.i .i64 (.sy fun _ => y)), .one (.i .i64 (.sy fun _ => most))] [sightRow .ro ss, noteRow .ro ns])
      fun x s => isRet x ∧ (resultI tab Tryz.f46.results.toList s.S.get (lget s.M)).1 ∧ IvLe (fun _ => none) (resultI tab Tryz.f46.results.toList s.S.get (lget s.M)).2 (.tup [.agg [.i .i64 (.sy fun _ => (inX st pl sk ss ns y most).x0), .i .i64 (.sy fun _ => (inX st pl sk ss ns y most).x1), .i .i64 (.sy fun _ => (inX st pl sk ss ns y most).y0), .i .i64 (.sy fun _ => (inX st pl sk ss ns y most).y1)], .one (.i .i64 (.sy fun _ => inE st pl sk ss ns y most))]) := by
  cbv
  simp only [implies_true, and_true, true_and, IX.v_lit, IX.v_nat, IX.v_sy, BX.v_lit, BX.v_sy, NX.v_lit, NX.v_sy, addN, in_true, eq_self, Nat.succ_eq_add_one, intD_eq, encInt_le, encText_le, encSpan_le, encPair_le, encBox_le, encNote_le, encSight_le, cell_i_le, Nat.add_zero, Int.toNat_natCast, Nat.lt_irrefl, if_false, and_self, ncast, imp_self, in_self, in_self2, in_and, Int.cast_ofNat_Int, in_and2, noT, noF]
  simp only [in_true, eq_self, and_true, true_and, ints, texts, spans, pairs, boxs, notes, sights, seen, lget, reduceIte, Nat.reduceEqDiff, reduceCtorEq, Nat.succ_ne_self, Nat.zero_ne_one, Nat.one_ne_zero, int_row0, int_row, text_row, span_row, pair_row, box_row, note_row, sight_row]
  refine ⟨⟨life_at rfl rfl hsz hnz⟩, fun h => ?_, fun h => ?_⟩
  · have h : checkE st pl sk ss ns ≠ 0 := of_decide_eq_false h
    cbv
    simp only [implies_true, and_true, true_and, IX.v_lit, IX.v_nat, IX.v_sy, BX.v_lit, BX.v_sy, NX.v_lit, NX.v_sy, addN, in_true, eq_self, Nat.succ_eq_add_one, intD_eq, encInt_le, encText_le, encSpan_le, encPair_le, encBox_le, encNote_le, encSight_le, cell_i_le, Nat.add_zero, Int.toNat_natCast, Nat.lt_irrefl, if_false, and_self, ncast, imp_self, in_self, in_self2, in_and, Int.cast_ofNat_Int, in_and2, ltB_t, ltB_f, leB_t, leB_f, eqB_t, eqB_f, ltNB_t, ltNB_f, leNB_t, leNB_f, eqNB_t, eqNB_f, noT, noF, Bool.and_eq_true, Bool.or_eq_true, Bool.and_eq_false_iff, Bool.or_eq_false_iff]
    have hE : inE st pl sk ss ns y most = checkE st pl sk ss ns := by unfold inE; rw [decide_eq_false h]; rfl
    have hX : inX st pl sk ss ns y most = boxD := by unfold inX; rw [hE, decide_eq_false h]; rfl
    exact ⟨⟨⟨by rw [hX]; rfl⟩, ⟨by rw [hX]; rfl⟩, ⟨by rw [hX]; rfl⟩, ⟨by rw [hX]; rfl⟩⟩, ⟨hE⟩⟩
  · have h : checkE st pl sk ss ns = 0 := of_decide_eq_true h
    have hR := runOk_of_check h
    have hn := hR.pos
    have hn9 := hR.few
    have hns := hR.notes
    cbv
    refine ⟨fun h1 => ?_, fun h1 => ?_⟩
    · have h1 : most < 0 := ltB_t.mp h1
      cbv
      simp only [implies_true, and_true, true_and, IX.v_lit, IX.v_nat, IX.v_sy, BX.v_lit, BX.v_sy, NX.v_lit, NX.v_sy, addN, in_true, eq_self, Nat.succ_eq_add_one, intD_eq, encInt_le, encText_le, encSpan_le, encPair_le, encBox_le, encNote_le, encSight_le, cell_i_le, Nat.add_zero, Int.toNat_natCast, Nat.lt_irrefl, if_false, and_self, ncast, imp_self, in_self, in_self2, in_and, Int.cast_ofNat_Int, in_and2, ltB_t, ltB_f, leB_t, leB_f, eqB_t, eqB_f, ltNB_t, ltNB_f, leNB_t, leNB_f, eqNB_t, eqNB_f, noT, noF, Bool.and_eq_true, Bool.or_eq_true, Bool.and_eq_false_iff, Bool.or_eq_false_iff]
      have hE : inE st pl sk ss ns y most = 1 := by unfold inE; rw [decide_eq_true h, decide_eq_true h1]; rfl
      have hX : inX st pl sk ss ns y most = boxD := by unfold inX; rw [hE]; rfl
      exact ⟨⟨⟨by rw [hX]; rfl⟩, ⟨by rw [hX]; rfl⟩, ⟨by rw [hX]; rfl⟩, ⟨by rw [hX]; rfl⟩⟩, ⟨hE⟩⟩
    · have h1 : 0 ≤ most := ltB_f.mp h1
      cbv
      simp only [implies_true, and_true, true_and, IX.v_lit, IX.v_nat, IX.v_sy, BX.v_lit, BX.v_sy, NX.v_lit, NX.v_sy, addN, in_true, eq_self, Nat.succ_eq_add_one, intD_eq, encInt_le, encText_le, encSpan_le, encPair_le, encBox_le, encNote_le, encSight_le, cell_i_le, Nat.add_zero, Int.toNat_natCast, Nat.lt_irrefl, if_false, and_self, ncast, imp_self, in_self, in_self2, in_and, Int.cast_ofNat_Int, in_and2, noT, noF]
      refine ⟨⟨by omega⟩, ⟨by omega⟩, fun _ => ⟨by unfold fitsK; omega⟩, fun _ => ⟨⟨by omega⟩, ⟨by omega⟩⟩, fun _ => ⟨by omega⟩, fun h2 => ?_, fun h2 => ?_⟩
      · have h2 : (ltB y (yearAt ss 0) || ltB (yearAt ss ((ss.length : Int) - 1).toNat) y) = true := by
          revert h2
          cases ss with
          | nil => exact absurd hn (by simp)
          | cons a t => exact fun h => h
        have hout : outB ss y = true := by
          unfold outB ltB at *
          rw [show ((ss.length : Int) - 1).toNat = ss.length - 1 by omega] at h2
          exact h2
        cbv
        simp only [implies_true, and_true, true_and, IX.v_lit, IX.v_nat, IX.v_sy, BX.v_lit, BX.v_sy, NX.v_lit, NX.v_sy, addN, in_true, eq_self, Nat.succ_eq_add_one, intD_eq, encInt_le, encText_le, encSpan_le, encPair_le, encBox_le, encNote_le, encSight_le, cell_i_le, Nat.add_zero, Int.toNat_natCast, Nat.lt_irrefl, if_false, and_self, ncast, imp_self, in_self, in_self2, in_and, Int.cast_ofNat_Int, in_and2, ltB_t, ltB_f, leB_t, leB_f, eqB_t, eqB_f, ltNB_t, ltNB_f, leNB_t, leNB_f, eqNB_t, eqNB_f, noT, noF, Bool.and_eq_true, Bool.or_eq_true, Bool.and_eq_false_iff, Bool.or_eq_false_iff]
        have hE : inE st pl sk ss ns y most = 5 := by unfold inE; rw [decide_eq_true h, decide_eq_false (by omega), hout]; rfl
        have hX : inX st pl sk ss ns y most = boxD := by unfold inX; rw [hE]; rfl
        exact ⟨⟨⟨by rw [hX]; rfl⟩, ⟨by rw [hX]; rfl⟩, ⟨by rw [hX]; rfl⟩, ⟨by rw [hX]; rfl⟩⟩, ⟨hE⟩⟩
      · have h2 : (ltB y (yearAt ss 0) || ltB (yearAt ss ((ss.length : Int) - 1).toNat) y) = false := by
          revert h2
          cases ss with
          | nil => exact absurd hn (by simp)
          | cons a t => exact fun h => h
        have hout : outB ss y = false := by
          unfold outB ltB at *
          rw [show ((ss.length : Int) - 1).toNat = ss.length - 1 by omega] at h2
          exact h2
        cbv
        simp only [implies_true, and_true, true_and, IX.v_lit, IX.v_nat, IX.v_sy, BX.v_lit, BX.v_sy, NX.v_lit, NX.v_sy, addN, in_true, eq_self, Nat.succ_eq_add_one, intD_eq, encInt_le, encText_le, encSpan_le, encPair_le, encBox_le, encNote_le, encSight_le, cell_i_le, Nat.add_zero, Int.toNat_natCast, Nat.lt_irrefl, if_false, and_self, ncast, imp_self, in_self, in_self2, in_and, Int.cast_ofNat_Int, in_and2, noT, noF]
        obtain ⟨N, hN⟩ : ∃ N, 3 ^ (ss.length - 1) = N := ⟨_, rfl⟩
        refine ⟨⟨run_side rfl rfl hR, by rw [(sights_at ss _ _ rfl).2, (notes_at ns _ _ rfl).2]; exact hb⟩, ?_⟩
        try simp only [in_true, eq_self, and_true, true_and, ints, texts, spans, pairs, boxs, notes, sights, seen, lget, reduceIte, Nat.reduceEqDiff, reduceCtorEq, Nat.succ_ne_self, Nat.zero_ne_one, Nat.one_ne_zero, int_row0, int_row, text_row, span_row, pair_row, box_row, note_row, sight_row]
        have hxl := extB_len (3 ^ (ss.length - 1)) hb
        have hE : inE st pl sk ss ns y most = 0 := by unfold inE; rw [decide_eq_true h, decide_eq_false (by omega), hout, hb]; rfl
        unfold outB at hout
        simp only [Bool.or_eq_false_iff, decide_eq_false_iff_not] at hout
        obtain ⟨ho1, ho2⟩ := hout
        obtain ⟨q', hq1, hq2, hq3, hq4⟩ := first_spec hn (by omega : y ≤ yearAt ss (ss.length - 1))

        have hq' : q' = (q + 1) := by rw [hq] at hq2; (first | omega | (simp only [ncast] at *; omega))
        subst hq'
        refine ⟨⟨show 1 ≤ (extB st pl sk ss ns most (3 ^ (ss.length - 1))).length by rw [hxl]; omega⟩, ⟨⟨(sights_at ss _ _ rfl).1, hsz⟩, hq⟩, ⟨by omega⟩, ⟨by omega⟩, fun h3 => ?_, fun h3 => ?_⟩
        · have h3 : yearAt ss (q + 1) = y := of_decide_eq_true h3
          cbv
          simp only [implies_true, and_true, true_and, IX.v_lit, IX.v_nat, IX.v_sy, BX.v_lit, BX.v_sy, NX.v_lit, NX.v_sy, addN, in_true, eq_self, Nat.succ_eq_add_one, intD_eq, encInt_le, encText_le, encSpan_le, encPair_le, encBox_le, encNote_le, encSight_le, cell_i_le, Nat.add_zero, Int.toNat_natCast, Nat.lt_irrefl, if_false, and_self, ncast, imp_self, in_self, in_self2, in_and, Int.cast_ofNat_Int, in_and2, ltB_t, ltB_f, leB_t, leB_f, eqB_t, eqB_f, ltNB_t, ltNB_f, leNB_t, leNB_f, eqNB_t, eqNB_f, noT, noF, Bool.and_eq_true, Bool.or_eq_true, Bool.and_eq_false_iff, Bool.or_eq_false_iff]
          have hX : inX st pl sk ss ns y most = (extB st pl sk ss ns most (3 ^ (ss.length - 1))).getD (q + 1) boxD := by
            have h4 : (firstFrom ss y).toNat = (q + 1) := by rw [hq]; exact Int.toNat_natCast _
            unfold inX
            rw [hE, h4, decide_eq_true h3]
            rfl
          exact ⟨⟨by rw [hxl]; omega⟩, ⟨by rw [hxl]; omega⟩, ⟨⟨by rw [hX]⟩, ⟨by rw [hX]⟩, ⟨by rw [hX]⟩, ⟨by rw [hX]⟩⟩, ⟨hE⟩⟩
        · have h3 : yearAt ss (q + 1) ≠ y := of_decide_eq_false h3
          cbv
          simp only [implies_true, and_true, true_and, IX.v_lit, IX.v_nat, IX.v_sy, BX.v_lit, BX.v_sy, NX.v_lit, NX.v_sy, addN, in_true, eq_self, Nat.succ_eq_add_one, intD_eq, encInt_le, encText_le, encSpan_le, encPair_le, encBox_le, encNote_le, encSight_le, cell_i_le, Nat.add_zero, Int.toNat_natCast, Nat.lt_irrefl, if_false, and_self, ncast, imp_self, in_self, in_self2, in_and, Int.cast_ofNat_Int, in_and2, ltB_t, ltB_f, leB_t, leB_f, eqB_t, eqB_f, ltNB_t, ltNB_f, leNB_t, leNB_f, eqNB_t, eqNB_f, noT, noF, Bool.and_eq_true, Bool.or_eq_true, Bool.and_eq_false_iff, Bool.or_eq_false_iff]
          have hX : inX st pl sk ss ns y most = coverD ((extB st pl sk ss ns most (3 ^ (ss.length - 1))).getD q boxD) ((extB st pl sk ss ns most (3 ^ (ss.length - 1))).getD (q + 1) boxD) := by
            have h4 : (firstFrom ss y).toNat = (q + 1) := by rw [hq]; exact Int.toNat_natCast _
            unfold inX
            rw [hE, h4, decide_eq_false h3]
            rfl
          exact ⟨⟨by unfold fitsK; omega⟩, ⟨by rw [hxl]; omega⟩, ⟨by rw [hxl]; omega⟩, ⟨by rw [hxl]; omega⟩, ⟨by rw [hxl]; omega⟩, ⟨by kernel_rfl⟩, ⟨⟨by rw [hX]; rfl⟩, ⟨by rw [hX]; rfl⟩, ⟨by rw [hX]; rfl⟩, ⟨by rw [hX]; rfl⟩⟩, ⟨hE⟩⟩
def spIn : Spec := fun args M _ => match args with
  | [.agg [.i .i64 st, .i .i64 pl, .i .i64 sk, c, d], .one (.i .i64 y), .one (.i .i64 most)] => ⟨In fun _ => okLife M c d, .tup [.agg [.i .i64 (.sy fun _ => (inX st.val pl.val sk.val (sights M c) (notes M d) y.val most.val).x0), .i .i64 (.sy fun _ => (inX st.val pl.val sk.val (sights M c) (notes M d) y.val most.val).x1), .i .i64 (.sy fun _ => (inX st.val pl.val sk.val (sights M c) (notes M d) y.val most.val).y0), .i .i64 (.sy fun _ => (inX st.val pl.val sk.val (sights M c) (notes M d) y.val most.val).y1)], .one (.i .i64 (.sy fun _ => inE st.val pl.val sk.val (sights M c) (notes M d) y.val most.val))], [], [], (seen M c).reads ++ (seen M d).reads⟩
  | _ => bad
theorem congrIn : spIn.Congr := by
  intro args M M' base hs h
  unfold spIn at *
  split at hs
  · simp only [okLife, okSights, okNotes, sights, notes] at h ⊢
    rw [seen_congr (M := M) (M' := M') (fun i hi => h i (List.mem_append_left _ hi)), seen_congr (M := M) (M' := M') (fun i hi => h i (List.mem_append_right _ hi))]
  · exact hs.elim
theorem okIn : SpecOk F0 Tryz.prog 46 spIn := by
  refine spec_any (fn := Tryz.f46) (c := fbody Tryz.f46) (by kernel_rfl) rfl rfl (by kernel_rfl) congrIn fun args M base hs => ?_
  unfold spIn at hs ⊢
  split at hs
  · rename_i st pl sk c d y most
    have hsz := hs.ok.2.2.1
    have hnz := hs.ok.2.2.2
    have fin : ∀ l, AllSpecs l → (∀ B, vc (en l) ⟨fun _ => none, B, fun _ => False, Tryz.f46.ntmps, none⟩ (fbody Tryz.f46) (start [.agg [.i .i64 (.sy fun _ => st.val), .i .i64 (.sy fun _ => pl.val), .i .i64 (.sy fun _ => sk.val), .ref 0, .ref 1], .one (.i .i64 (.sy fun _ => y.val)), .one (.i .i64 (.sy fun _ => most.val))] [sightRow .ro (sights M c), noteRow .ro (notes M d)])
      fun x s => isRet x ∧ (resultI tab Tryz.f46.results.toList s.S.get (lget s.M)).1 ∧ IvLe (fun _ => none) (resultI tab Tryz.f46.results.toList s.S.get (lget s.M)).2 (.tup [.agg [.i .i64 (.sy fun _ => (inX st.val pl.val sk.val (sights M c) (notes M d) y.val most.val).x0), .i .i64 (.sy fun _ => (inX st.val pl.val sk.val (sights M c) (notes M d) y.val most.val).x1), .i .i64 (.sy fun _ => (inX st.val pl.val sk.val (sights M c) (notes M d) y.val most.val).y0), .i .i64 (.sy fun _ => (inX st.val pl.val sk.val (sights M c) (notes M d) y.val most.val).y1)], .one (.i .i64 (.sy fun _ => inE st.val pl.val sk.val (sights M c) (notes M d) y.val most.val))])) → _ := fun l hl hv =>
      (⟨l, [.agg [.i .i64 (.sy fun _ => st.val), .i .i64 (.sy fun _ => pl.val), .i .i64 (.sy fun _ => sk.val), .ref 0, .ref 1], .one (.i .i64 (.sy fun _ => y.val)), .one (.i .i64 (.sy fun _ => most.val))], [sightRow .ro (sights M c), noteRow .ro (notes M d)], fun _ => .tup [.agg [.i .i64 (.sy fun _ => (inX st.val pl.val sk.val (sights M c) (notes M d) y.val most.val).x0), .i .i64 (.sy fun _ => (inX st.val pl.val sk.val (sights M c) (notes M d) y.val most.val).x1), .i .i64 (.sy fun _ => (inX st.val pl.val sk.val (sights M c) (notes M d) y.val most.val).y0), .i .i64 (.sy fun _ => (inX st.val pl.val sk.val (sights M c) (notes M d) y.val most.val).y1)], .one (.i .i64 (.sy fun _ => inE st.val pl.val sk.val (sights M c) (notes M d) y.val most.val))], fun _ => [], hl, Nat.le_of_ble_eq_true rfl, ⟨rfl, trivial⟩, .val rfl (.val rfl (.val rfl (.row (sight_from hs.ok.1) (.row (note_from hs.ok.2.1) (.val rfl (.val rfl .nil)))))), rfl, rfl, rfl, closedI_le rfl, trivial, (fun ob hob => by cases hob), fun B => vc_mono (en_ok hl) (hv B) fun x s hx => ⟨hx.1, hx.2.1, [], trivial, trivial, trivial, hx.2.2⟩⟩ : ∃ (l : List (FuncId × Spec)) (cargs : List IV) (obs : List Ob) (r : Nat → IV) (news : Nat → List Ob), AllSpecs l ∧ cargs.length ≤ Tryz.f46.ntmps ∧ sameShape [.agg [.i .i64 st, .i .i64 pl, .i .i64 sk, c, d], .one (.i .i64 y), .one (.i .i64 most)] cargs ∧ Flat M 0 ([IV.agg [.i .i64 st, .i .i64 pl, .i .i64 sk, c, d], .one (.i .i64 y), .one (.i .i64 most)].flatMap (·.cells)) (cargs.flatMap (·.cells)) obs ∧
      (.tup [.agg [.i .i64 (.sy fun _ => (inX st.val pl.val sk.val (sights M c) (notes M d) y.val most.val).x0), .i .i64 (.sy fun _ => (inX st.val pl.val sk.val (sights M c) (notes M d) y.val most.val).x1), .i .i64 (.sy fun _ => (inX st.val pl.val sk.val (sights M c) (notes M d) y.val most.val).y0), .i .i64 (.sy fun _ => (inX st.val pl.val sk.val (sights M c) (notes M d) y.val most.val).y1)], .one (.i .i64 (.sy fun _ => inE st.val pl.val sk.val (sights M c) (notes M d) y.val most.val))]) = r base ∧ [] = news base ∧ ([] : List (Nat × Ob)) = [] ∧ IvLe (tauN base (news 0).length) (r 0) (r base) ∧ All2 (ObLe (tauN base (news 0).length)) (news 0) (news base) ∧ (∀ ob ∈ news base, ob.own = true ∨ ¬ ob.occ) ∧
      ∀ B, vc (en l) ⟨fun _ => none, B, fun _ => False, Tryz.f46.ntmps, none⟩ (fbody Tryz.f46) (start cargs obs) fun x st => isRet x ∧ (resultI tab Tryz.f46.results.toList st.S.get (lget st.M)).1 ∧ ∃ js, FinBy tab Tryz.f46.results.toList js st (r 0) (news 0))
    cases hb : anyE st.val pl.val sk.val (sights M c) (notes M d) most.val (3 ^ ((sights M c).length - 1)) with
    | false => exact fin [(23, spCheck), (103, spExt0), (105, spFirstAt (.lit 0)), (106, spSeen1), (49, spCover)] ⟨okCheck, okExt0, okFirstAt _, okSeen1, okCover, trivial⟩ (in_vc0 hsz hnz hb)
    | true =>
      rcases Int.lt_or_le (firstFrom (sights M c) y.val) 1 with h1 | h1
      · exact fin [(23, spCheck), (103, spExt1), (105, spFirstAt (.lit 0)), (106, spSeen1), (49, spCover)] ⟨okCheck, okExt1, okFirstAt _, okSeen1, okCover, trivial⟩ (in_vc1 hsz hnz hb h1)
      · exact fin [(23, spCheck), (103, spExt1), (105, spFirstAt (.nat (fun _ => (firstFrom (sights M c) y.val).toNat - 1) 1)), (106, spSeen1), (49, spCover)] ⟨okCheck, okExt1, okFirstAt _, okSeen1, okCover, trivial⟩ (in_vc2 hsz hnz hb ((firstFrom (sights M c) y.val).toNat - 1) (by omega))
  · exact hs.elim
end Go.Proofs.YthgllnnlngihoaaGreat.Sx
end
