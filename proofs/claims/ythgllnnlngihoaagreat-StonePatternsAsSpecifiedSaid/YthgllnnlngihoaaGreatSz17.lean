/- Needs. (Printed by genn2.py.); Boxes that grow and meet; may; slices.Grow, slices.Concat at sights; listed; May; Structs of integers that are compared; What the example life gives. -/
import Derived.Shelf.Spec.SlicesGrow
import Derived.Laws.StructEq
import Derived.Tactics
import Derived.Tactics2
import Derived.Test.YthgllnnlngihoaaGreatSz16
section
set_option linter.unusedVariables false
set_option linter.unusedSimpArgs false
set_option maxRecDepth 100000
namespace Go.Proofs.YthgllnnlngihoaaGreat.Sx
open Go.RowKit

section
variable (st pl sk : Int) (ss : List SightD) (ns : List NoteD)
def wholeV : Int := bif someK st pl sk ss ns (3 ^ (ss.length - 1)) then (changesN (bestL st pl sk ss ns (3 ^ (ss.length - 1))) : Int) else -1
def lessS (i : Nat) : List SightD := (delL ss sightD i).take (ss.length - 1)
def lessN (i : Nat) : List NoteD := (delL ns noteD i).take (ns.length - 1)
def needS (i : Nat) : Bool := decide (1 < ss.length) && fewerB st pl sk (lessS ss i) ns (wholeV st pl sk ss ns)
def needN (i : Nat) : Bool := fewerB st pl sk ss (lessN ns i) (wholeV st pl sk ss ns)
def need1 : Nat → List Int
  | 0 => []
  | i + 1 => bif needS st pl sk ss ns i then need1 i ++ [(ss.getD i sightD).id] else need1 i
def need2 : Nat → List Int
  | 0 => need1 st pl sk ss ns ss.length
  | i + 1 => bif needN st pl sk ss ns i then need2 i ++ [(ns.getD i noteD).id] else need2 i
def needsL : List Int := bif decide (checkE st pl sk ss ns = 0) then sortI (need2 st pl sk ss ns ns.length) else []
end
theorem need1_len (st pl sk : Int) (ss : List SightD) (ns : List NoteD) (i : Nat) : (need1 st pl sk ss ns i).length ≤ i := by
  induction i with
  | zero => exact Nat.le_refl _
  | succ i ih =>
    rw [need1]
    cases needS st pl sk ss ns i with
    | true => rw [cond_true, List.length_append]; simp only [List.length_cons, List.length_nil]; omega
    | false => rw [cond_false]; omega
theorem need2_len (st pl sk : Int) (ss : List SightD) (ns : List NoteD) (i : Nat) : (need2 st pl sk ss ns i).length ≤ ss.length + i := by
  induction i with
  | zero => exact need1_len st pl sk ss ns ss.length
  | succ i ih =>
    rw [need2]
    cases needN st pl sk ss ns i with
    | true => rw [cond_true, List.length_append]; simp only [List.length_cons, List.length_nil]; omega
    | false => rw [cond_false]; omega
theorem lessS_len (ss : List SightD) (i : Nat) : (lessS ss i).length = ss.length - 1 := by
  unfold lessS
  rw [List.length_take, delL_len]
  omega
theorem lessN_len (ns : List NoteD) (i : Nat) : (lessN ns i).length = ns.length - 1 := by
  unfold lessN
  rw [List.length_take, delL_len]
  omega
theorem lessS_get {ss : List SightD} {i e : Nat} (he : e + 1 < ss.length) : (lessS ss i).getD e sightD = if e < i then ss.getD e sightD else ss.getD (e + 1) sightD := by
  have h := delL_get (d := sightD) (i := i) (show e < ss.length by omega)
  rw [if_pos he] at h
  rw [← h]
  unfold lessS
  rw [List.getD_eq_getElem?_getD, List.getD_eq_getElem?_getD, List.getElem?_take_of_lt (by omega)]
theorem run_less {st pl sk : Int} {ss : List SightD} {ns : List NoteD} (hR : RunOk st pl sk ss ns) (h1 : 1 < ss.length) (i : Nat) : RunOk st pl sk (lessS ss i) ns := by
  have hl := lessS_len ss i
  have h9 := hR.few
  have hg : ∀ e, e + 1 < ss.length → sightAt (lessS ss i) e = if e < i then sightAt ss e else sightAt ss (e + 1) := fun e he => lessS_get he
  refine ⟨hR.hab, ⟨fun pos k hk => ?_, fun k hk => ?_, fun k hk => ?_, fun k hk => ?_⟩, by omega, by omega, hR.notes⟩
  · rw [hg k (by omega)]
    split
    · exact hR.life.spans pos k (by omega)
    · exact hR.life.spans pos (k + 1) (by omega)
  · rw [hg k (by omega)]
    split
    · exact hR.life.high k (by omega)
    · exact hR.life.high (k + 1) (by omega)
  · show 0 ≤ (sightAt (lessS ss i) k).year ∧ (sightAt (lessS ss i) k).year ≤ 4000
    rw [hg k (by omega)]
    split
    · exact hR.life.years k (by omega)
    · exact hR.life.years (k + 1) (by omega)
  · show (sightAt (lessS ss i) k).year < (sightAt (lessS ss i) (k + 1)).year
    rw [hg k (by omega), hg (k + 1) (by omega)]
    have a : (sightAt ss k).year < (sightAt ss (k + 1)).year := hR.life.rising k (by omega)
    have b : (sightAt ss (k + 1)).year < (sightAt ss (k + 1 + 1)).year := hR.life.rising (k + 1) (by omega)
    by_cases c : k < i
    · by_cases d : k + 1 < i
      · rw [if_pos c, if_pos d]; exact a
      · rw [if_pos c, if_neg d]; omega
    · rw [if_neg c, if_neg (by omega)]; exact b
theorem run_lessN {st pl sk : Int} {ss : List SightD} {ns : List NoteD} (hR : RunOk st pl sk ss ns) (i : Nat) : RunOk st pl sk ss (lessN ns i) := ⟨hR.hab, hR.life, hR.pos, hR.few, by have := hR.notes; rw [lessN_len]; omega⟩
section
variable {α : Type} (C : Cod α)
theorem cut_row (xs : List α) {m : Nat} (hm : m ≤ xs.length) {side : Prop} {k : Nat} {r : List Nat} : listOf C ⟨side, .sy (fun _ => m) 0, k, fun e => C.enc fun _ => xs.getD e C.d, r⟩ = xs.take m := by
  apply List.ext_getElem?
  intro i
  by_cases h : i < m
  · rw [List.getElem?_take_of_lt h]
    have h' : i < xs.length := by omega
    simp [listOf, h, h', C.back, NX.val, addN]
  · rw [List.getElem?_eq_none (by rw [listOf_len]; show m ≤ i; omega), List.getElem?_eq_none (by rw [List.length_take]; omega)]
theorem cut_ok (xs : List α) {m : Nat} {side : Prop} {r : List Nat} (hs : side) : okRow C ⟨side, .sy (fun _ => m) 0, C.k, fun e => C.enc fun _ => xs.getD e C.d, r⟩ :=
  ⟨hs, fun _ => rfl, fun e _ => by
    simp only [C.back]
    exact closedL_le (C.closed _)⟩
end
theorem cutS_side {M : Mem} {c d : CV} {xs : List SightD} {ns : List NoteD} {m : Nat} {side : Prop} {r1 r2 : List Nat} (h1 : seen M c = ⟨side, .sy (fun _ => m) 0, 9, fun e => encSight fun _ => xs.getD e sightD, r1⟩) (h2 : seen M d = ⟨True, .sy (fun _ => ns.length) 0, 4, fun e => encNote fun _ => ns.getD e noteD, r2⟩) (hs : side) (hm : m ≤ xs.length) (hx : xs.length ≤ 1000) (hn : ns.length ≤ 1000) : okLife M c d := by
  have e1 : (sights M c).length = m := by unfold sights; rw [h1, listOf_len]; rfl
  obtain ⟨a, b⟩ := notes_at ns M d h2
  refine ⟨by unfold okSights; rw [h1]; exact cut_ok sightCod xs hs, a, by rw [e1]; omega, by rw [b]; omega⟩
theorem cutN_side {M : Mem} {c d : CV} {ss : List SightD} {xs : List NoteD} {m : Nat} {side : Prop} {r1 r2 : List Nat} (h1 : seen M c = ⟨True, .sy (fun _ => ss.length) 0, 9, fun e => encSight fun _ => ss.getD e sightD, r1⟩) (h2 : seen M d = ⟨side, .sy (fun _ => m) 0, 4, fun e => encNote fun _ => xs.getD e noteD, r2⟩) (hs : side) (hm : m ≤ xs.length) (hx : xs.length ≤ 1000) (hn : ss.length ≤ 1000) : okLife M c d := by
  have e1 : (notes M d).length = m := by unfold notes; rw [h2, listOf_len]; rfl
  obtain ⟨a, b⟩ := sights_at ss M c h1
  refine ⟨a, by unfold okNotes; rw [h2]; exact cut_ok noteCod xs hs, by rw [b]; omega, by rw [e1]; omega⟩
noncomputable def needsG : List (FuncId × Spec) := [(23, spCheck), (91, spLeast91), (90, spChanges), (93, spCloneSight), (92, spDelSight), (94, spFewer), (96, spCloneNote), (95, spDelNote), (82, spSort)]
theorem needs_vc {st pl sk : Int} {ss : List SightD} {ns : List NoteD} (hsz : ss.length ≤ 140737488355328) (hnz : ns.length ≤ 140737488355328) (B : Nat) :
    vc (en needsG) ⟨fun _ => none, B, fun _ => False, Tryz.f33.ntmps, none⟩ (fbody Tryz.f33) (start [.agg [.i .i64 (.sy fun _ => st), .i .i64 (.sy fun _ => pl), .i .i64 (.sy fun _ => sk), .ref 0, .ref 1]] [sightRow .ro ss, noteRow .ro ns])
      fun x s => isRet x ∧ (resultI tab Tryz.f33.results.toList s.S.get (lget s.M)).1 ∧ ∃ js, FinBy tab Tryz.f33.results.toList js s (.tup [.one (.ref 0), .one (.i .i64 (.sy fun _ => checkE st pl sk ss ns))]) [intRowT 3 fun _ => needsL st pl sk ss ns] := by
  cbv
  simp only [implies_true, and_true, true_and, IX.v_lit, IX.v_nat, IX.v_sy, BX.v_lit, BX.v_sy, NX.v_lit, NX.v_sy, addN, in_true, eq_self, Nat.succ_eq_add_one, intD_eq, encInt_le, encText_le, encSpan_le, encPair_le, encBox_le, encNote_le, encSight_le, cell_i_le, Nat.add_zero, Int.toNat_natCast, Nat.lt_irrefl, if_false, and_self, ncast, imp_self, in_self, in_self2, in_and, Int.cast_ofNat_Int, in_and2, noT, noF]
  simp only [in_true, eq_self, and_true, true_and, ints, texts, spans, pairs, boxs, notes, sights, seen, lget, reduceIte, Nat.reduceEqDiff, reduceCtorEq, Nat.succ_ne_self, Nat.zero_ne_one, Nat.one_ne_zero, int_row0, int_row, text_row, span_row, pair_row, box_row, note_row, sight_row]
  refine ⟨⟨life_at rfl rfl hsz hnz⟩, fun h => ?_, fun h => ?_⟩
  · have h : checkE st pl sk ss ns ≠ 0 := of_decide_eq_false h
    cbv
    refine ⟨[.nil], ?_⟩
    cbv
    simp only [implies_true, and_true, true_and, IX.v_lit, IX.v_nat, IX.v_sy, BX.v_lit, BX.v_sy, NX.v_lit, NX.v_sy, addN, in_true, eq_self, Nat.succ_eq_add_one, intD_eq, encInt_le, encText_le, encSpan_le, encPair_le, encBox_le, encNote_le, encSight_le, cell_i_le, Nat.add_zero, Int.toNat_natCast, Nat.lt_irrefl, if_false, and_self, ncast, imp_self, in_self, in_self2, in_and, Int.cast_ofNat_Int, in_and2, ltB_t, ltB_f, leB_t, leB_f, eqB_t, eqB_f, ltNB_t, ltNB_f, leNB_t, leNB_f, eqNB_t, eqNB_f, noT, noF, Bool.and_eq_true, Bool.or_eq_true, Bool.and_eq_false_iff, Bool.or_eq_false_iff]
    exact ⟨by unfold needsL; rw [decide_eq_false h]; rfl⟩
  · have h : checkE st pl sk ss ns = 0 := of_decide_eq_true h
    have hR := runOk_of_check h
    have hn := hR.pos
    have hn9 := hR.few
    have hns := hR.notes
    have hbl := bestL_len (st := st) (pl := pl) (sk := sk) (ss := ss) (ns := ns) (3 ^ (ss.length - 1))
    cbv
    simp only [implies_true, and_true, true_and, IX.v_lit, IX.v_nat, IX.v_sy, BX.v_lit, BX.v_sy, NX.v_lit, NX.v_sy, addN, in_true, eq_self, Nat.succ_eq_add_one, intD_eq, encInt_le, encText_le, encSpan_le, encPair_le, encBox_le, encNote_le, encSight_le, cell_i_le, Nat.add_zero, Int.toNat_natCast, Nat.lt_irrefl, if_false, and_self, ncast, imp_self, in_self, in_self2, in_and, Int.cast_ofNat_Int, in_and2, noT, noF]
    refine ⟨⟨run_side rfl rfl hR⟩, ?_⟩
    simp only [in_true, eq_self, and_true, true_and, ints, texts, spans, pairs, boxs, notes, sights, seen, lget, reduceIte, Nat.reduceEqDiff, reduceCtorEq, Nat.succ_ne_self, Nat.zero_ne_one, Nat.one_ne_zero, int_row0, int_row, text_row, span_row, pair_row, box_row, note_row, sight_row]
    refine ⟨fun hs => ?_, fun hs => ?_⟩
    · have hw : wholeV st pl sk ss ns = (changesN (bestL st pl sk ss ns (3 ^ (ss.length - 1))) : Int) := by unfold wholeV; rw [show someK st pl sk ss ns (3 ^ (ss.length - 1)) = true from hs]; rfl
      cbv
      simp only [implies_true, and_true, true_and, IX.v_lit, IX.v_nat, IX.v_sy, BX.v_lit, BX.v_sy, NX.v_lit, NX.v_sy, addN, in_true, eq_self, Nat.succ_eq_add_one, intD_eq, encInt_le, encText_le, encSpan_le, encPair_le, encBox_le, encNote_le, encSight_le, cell_i_le, Nat.add_zero, Int.toNat_natCast, Nat.lt_irrefl, if_false, and_self, ncast, imp_self, in_self, in_self2, in_and, Int.cast_ofNat_Int, in_and2, noT, noF]
      refine ⟨⟨(ints_at (bestL st pl sk ss ns (3 ^ (ss.length - 1))) _ _ rfl).1, by rw [(ints_at (bestL st pl sk ss ns (3 ^ (ss.length - 1))) _ _ rfl).2]; omega⟩, ?_⟩
      try simp only [in_true, eq_self, and_true, true_and, ints, texts, spans, pairs, boxs, notes, sights, seen, lget, reduceIte, Nat.reduceEqDiff, reduceCtorEq, Nat.succ_ne_self, Nat.zero_ne_one, Nat.one_ne_zero, int_row0, int_row, text_row, span_row, pair_row, box_row, note_row, sight_row]
      refine ⟨{i : Nat // i ≤ ss.length}, fun i => ⟨[(1, .lit true, .one (.ref 2)), (5, .lit true, cint .i64 (.sy fun _ => wholeV st pl sk ss ns)), (8, .lit true, .one (.ref 3)), (29, .lit true, .one (.ref 0)), (30, .lit true, cint .i64 (.nat (fun _ => ss.length) 0)), (31, .lit true, cint .i64 (.nat (fun _ => i.1) 0))], [(0, sightRow .ro ss), (1, noteRow .ro ns), (2, .box true 27 [.i .i64 (.sy fun _ => st), .i .i64 (.sy fun _ => pl), .i .i64 (.sy fun _ => sk), .ref 0, .ref 1]), (3, intRowT 3 fun _ => need1 st pl sk ss ns i.1)], 4⟩, fun i => ss.length - i.1, ⟨0, Nat.zero_le _⟩, LeBy.le (pins := []) (fun i u h => by cases h) (l := [(0, .old 0), (1, .old 1), (2, .old 2), (3, .nil)]) ?_, fun i => ?_⟩
      · cbv
        simp only [implies_true, and_true, true_and, IX.v_lit, IX.v_nat, IX.v_sy, BX.v_lit, BX.v_sy, NX.v_lit, NX.v_sy, addN, in_true, eq_self, Nat.succ_eq_add_one, intD_eq, encInt_le, encText_le, encSpan_le, encPair_le, encBox_le, encNote_le, encSight_le, cell_i_le, Nat.add_zero, Int.toNat_natCast, Nat.lt_irrefl, if_false, and_self, ncast, imp_self, in_self, in_self2, in_and, Int.cast_ofNat_Int, in_and2, noT, noF]
        exact ⟨⟨rfl⟩, ⟨hw⟩⟩
      · obtain ⟨i, hi⟩ := i
        cbv
        simp only [implies_true, and_true, true_and, IX.v_lit, IX.v_nat, IX.v_sy, BX.v_lit, BX.v_sy, NX.v_lit, NX.v_sy, addN, in_true, eq_self, Nat.succ_eq_add_one, intD_eq, encInt_le, encText_le, encSpan_le, encPair_le, encBox_le, encNote_le, encSight_le, cell_i_le, Nat.add_zero, Int.toNat_natCast, Nat.lt_irrefl, if_false, and_self, ncast, imp_self, in_self, in_self2, in_and, Int.cast_ofNat_Int, in_and2, ltB_t, ltB_f, leB_t, leB_f, eqB_t, eqB_f, ltNB_t, ltNB_f, leNB_t, leNB_f, eqNB_t, eqNB_f, noT, noF, Bool.and_eq_true, Bool.or_eq_true, Bool.and_eq_false_iff, Bool.or_eq_false_iff]
        refine ⟨fun hlt => ?_, fun hlt => ?_⟩
        · cbv
          simp only [implies_true, and_true, true_and, IX.v_lit, IX.v_nat, IX.v_sy, BX.v_lit, BX.v_sy, NX.v_lit, NX.v_sy, addN, in_true, eq_self, Nat.succ_eq_add_one, intD_eq, encInt_le, encText_le, encSpan_le, encPair_le, encBox_le, encNote_le, encSight_le, cell_i_le, Nat.add_zero, Int.toNat_natCast, Nat.lt_irrefl, if_false, and_self, ncast, imp_self, in_self, in_self2, in_and, Int.cast_ofNat_Int, in_and2, ltB_t, ltB_f, leB_t, leB_f, eqB_t, eqB_f, ltNB_t, ltNB_f, leNB_t, leNB_f, eqNB_t, eqNB_f, noT, noF, Bool.and_eq_true, Bool.or_eq_true, Bool.and_eq_false_iff, Bool.or_eq_false_iff]
          refine ⟨⟨by omega⟩, ⟨by omega⟩, ⟨(sights_at ss _ _ rfl).1, by rw [(sights_at ss _ _ rfl).2]; omega, by rw [(sights_at ss _ _ rfl).2]; omega⟩, ?_⟩
          try simp only [in_true, eq_self, and_true, true_and, ints, texts, spans, pairs, boxs, notes, sights, seen, lget, reduceIte, Nat.reduceEqDiff, reduceCtorEq, Nat.succ_ne_self, Nat.zero_ne_one, Nat.one_ne_zero, int_row0, int_row, text_row, span_row, pair_row, box_row, note_row, sight_row]
          have hdl := delL_len ss sightD i
          have hcut : ∀ (side : Prop) (r : List Nat), listOf sightCod ⟨side, .sy (fun _ => ss.length - 1) 0, 9, fun e => encSight fun _ => (delL ss sightD i).getD e sightD, r⟩ = lessS ss i := fun side r => cut_row sightCod (delL ss sightD i) (by omega)
          simp only [hcut]
          refine ⟨⟨nat_fits hlt hsz⟩, ⟨(sights_at ss _ _ rfl).1, by omega, by omega, by omega, by omega⟩, fun h1 => ⟨cutS_side rfl rfl ⟨by show ss.length - 1 ≤ (delL ss sightD i).length; omega⟩ (by omega) (by omega) (by omega), run_less hR (by omega) i⟩, fun hy => ?_, fun hy => ?_⟩
          · have hN : needS st pl sk ss ns i = true := by
              unfold needS
              rw [hy.2, decide_eq_true (by (first | omega | (simp only [ncast] at *; omega)))]
              rfl
            have h2 : need1 st pl sk ss ns (i + 1) = need1 st pl sk ss ns i ++ [(ss.getD i sightD).id] := by rw [need1, hN]; rfl
            have h3 := need1_len st pl sk ss ns i
            cbv
            simp only [implies_true, and_true, true_and, IX.v_lit, IX.v_nat, IX.v_sy, BX.v_lit, BX.v_sy, NX.v_lit, NX.v_sy, addN, in_true, eq_self, Nat.succ_eq_add_one, intD_eq, encInt_le, encText_le, encSpan_le, encPair_le, encBox_le, encNote_le, encSight_le, cell_i_le, Nat.add_zero, Int.toNat_natCast, Nat.lt_irrefl, if_false, and_self, ncast, imp_self, in_self, in_self2, in_and, Int.cast_ofNat_Int, in_and2, ltB_t, ltB_f, leB_t, leB_f, eqB_t, eqB_f, ltNB_t, ltNB_f, leNB_t, leNB_f, eqNB_t, eqNB_f, noT, noF, Bool.and_eq_true, Bool.or_eq_true, Bool.and_eq_false_iff, Bool.or_eq_false_iff]
            refine ⟨⟨by omega, by omega⟩, ⟨nat_fits hlt hsz⟩, ⟨i + 1, by omega⟩, LeBy.le (pins := []) (fun i u h => by cases h) (l := [(0, .old 0), (1, .old 1), (2, .old 2), (3, .old 8)]) ?_, by show ss.length - (i + 1) < ss.length - i; omega⟩
            cbv
            simp only [implies_true, and_true, true_and, IX.v_lit, IX.v_nat, IX.v_sy, BX.v_lit, BX.v_sy, NX.v_lit, NX.v_sy, addN, in_true, eq_self, Nat.succ_eq_add_one, intD_eq, encInt_le, encText_le, encSpan_le, encPair_le, encBox_le, encNote_le, encSight_le, cell_i_le, Nat.add_zero, Int.toNat_natCast, Nat.lt_irrefl, if_false, and_self, ncast, imp_self, in_self, in_self2, in_and, Int.cast_ofNat_Int, in_and2, ltB_t, ltB_f, leB_t, leB_f, eqB_t, eqB_f, ltNB_t, ltNB_f, leNB_t, leNB_f, eqNB_t, eqNB_f, noT, noF, Bool.and_eq_true, Bool.or_eq_true, Bool.and_eq_false_iff, Bool.or_eq_false_iff]
            refine ⟨⟨by rw [h2, List.length_append]; rfl⟩, ⟨fun e he => ?_⟩⟩
            by_cases h1 : e < (need1 st pl sk ss ns i).length
            · simp only [h1, if_true]
              rw [show (fun x : PUnit => (need1 st pl sk ss ns (i + 1)).getD e 0) = fun _ => (need1 st pl sk ss ns i).getD e 0 from funext fun _ => by rw [h2, List.getD_eq_getElem?_getD, List.getD_eq_getElem?_getD, List.getElem?_append_left h1, ← List.getD_eq_getElem?_getD]]
              exact closedL_le rfl
            · simp only [h1, if_false]
              obtain rfl : e = (need1 st pl sk ss ns i).length := by omega
              rw [Nat.sub_self]
              exact int1_le (x := .sy fun _ => (ss.getD i sightD).id) (y := .sy fun _ => (need1 st pl sk ss ns (i + 1)).getD (need1 st pl sk ss ns i).length 0) (by
                show (need1 st pl sk ss ns (i + 1)).getD (need1 st pl sk ss ns i).length 0 = (ss.getD i sightD).id
                rw [h2, List.getD_eq_getElem?_getD]
                simp)
          · have hN : needS st pl sk ss ns i = false := by
              unfold needS
              rcases hy with hy | hy
              · rw [decide_eq_false (by (first | omega | (simp only [ncast] at *; omega)))]
                rfl
              · rw [hy, Bool.and_false]
            have h2 : need1 st pl sk ss ns (i + 1) = need1 st pl sk ss ns i := by rw [need1, hN]; rfl
            cbv
            simp only [implies_true, and_true, true_and, IX.v_lit, IX.v_nat, IX.v_sy, BX.v_lit, BX.v_sy, NX.v_lit, NX.v_sy, addN, in_true, eq_self, Nat.succ_eq_add_one, intD_eq, encInt_le, encText_le, encSpan_le, encPair_le, encBox_le, encNote_le, encSight_le, cell_i_le, Nat.add_zero, Int.toNat_natCast, Nat.lt_irrefl, if_false, and_self, ncast, imp_self, in_self, in_self2, in_and, Int.cast_ofNat_Int, in_and2, ltB_t, ltB_f, leB_t, leB_f, eqB_t, eqB_f, ltNB_t, ltNB_f, leNB_t, leNB_f, eqNB_t, eqNB_f, noT, noF, Bool.and_eq_true, Bool.or_eq_true, Bool.and_eq_false_iff, Bool.or_eq_false_iff]
            refine ⟨⟨nat_fits hlt hsz⟩, ⟨i + 1, by omega⟩, LeBy.le (pins := []) (fun i u h => by cases h) (l := [(0, .old 0), (1, .old 1), (2, .old 2), (3, .old 3)]) ?_, by show ss.length - (i + 1) < ss.length - i; omega⟩
            cbv
            simp only [implies_true, and_true, true_and, IX.v_lit, IX.v_nat, IX.v_sy, BX.v_lit, BX.v_sy, NX.v_lit, NX.v_sy, addN, in_true, eq_self, Nat.succ_eq_add_one, intD_eq, encInt_le, encText_le, encSpan_le, encPair_le, encBox_le, encNote_le, encSight_le, cell_i_le, Nat.add_zero, Int.toNat_natCast, Nat.lt_irrefl, if_false, and_self, ncast, imp_self, in_self, in_self2, in_and, Int.cast_ofNat_Int, in_and2, ltB_t, ltB_f, leB_t, leB_f, eqB_t, eqB_f, ltNB_t, ltNB_f, leNB_t, leNB_f, eqNB_t, eqNB_f, noT, noF, Bool.and_eq_true, Bool.or_eq_true, Bool.and_eq_false_iff, Bool.or_eq_false_iff]
            exact ⟨⟨by rw [h2]⟩, ⟨fun e he => by rw [h2]; exact closedL_le rfl⟩⟩
        · obtain rfl : i = ss.length := by omega
          cbv
          refine ⟨{i : Nat // i ≤ ns.length}, fun i => ⟨[(1, .lit true, .one (.ref 2)), (5, .lit true, cint .i64 (.sy fun _ => wholeV st pl sk ss ns)), (8, .lit true, .one (.ref 3)), (61, .lit true, .one (.ref 1)), (62, .lit true, cint .i64 (.nat (fun _ => ns.length) 0)), (63, .lit true, cint .i64 (.nat (fun _ => i.1) 0))], [(0, sightRow .ro ss), (1, noteRow .ro ns), (2, .box true 27 [.i .i64 (.sy fun _ => st), .i .i64 (.sy fun _ => pl), .i .i64 (.sy fun _ => sk), .ref 0, .ref 1]), (3, intRowT 3 fun _ => need2 st pl sk ss ns i.1)], 4⟩, fun i => ns.length - i.1, ⟨0, Nat.zero_le _⟩, LeBy.le (pins := []) (fun i u h => by cases h) (l := [(0, .old 0), (1, .old 1), (2, .old 2), (3, .old 3)]) ?_, fun i => ?_⟩
          · cbv
            simp only [implies_true, and_true, true_and, IX.v_lit, IX.v_nat, IX.v_sy, BX.v_lit, BX.v_sy, NX.v_lit, NX.v_sy, addN, in_true, eq_self, Nat.succ_eq_add_one, intD_eq, encInt_le, encText_le, encSpan_le, encPair_le, encBox_le, encNote_le, encSight_le, cell_i_le, Nat.add_zero, Int.toNat_natCast, Nat.lt_irrefl, if_false, and_self, ncast, imp_self, in_self, in_self2, in_and, Int.cast_ofNat_Int, in_and2, noT, noF]
            exact ⟨⟨rfl⟩, ⟨fun e he => closedL_le rfl⟩⟩
          · obtain ⟨i, hi⟩ := i
            cbv
            simp only [implies_true, and_true, true_and, IX.v_lit, IX.v_nat, IX.v_sy, BX.v_lit, BX.v_sy, NX.v_lit, NX.v_sy, addN, in_true, eq_self, Nat.succ_eq_add_one, intD_eq, encInt_le, encText_le, encSpan_le, encPair_le, encBox_le, encNote_le, encSight_le, cell_i_le, Nat.add_zero, Int.toNat_natCast, Nat.lt_irrefl, if_false, and_self, ncast, imp_self, in_self, in_self2, in_and, Int.cast_ofNat_Int, in_and2, ltB_t, ltB_f, leB_t, leB_f, eqB_t, eqB_f, ltNB_t, ltNB_f, leNB_t, leNB_f, eqNB_t, eqNB_f, noT, noF, Bool.and_eq_true, Bool.or_eq_true, Bool.and_eq_false_iff, Bool.or_eq_false_iff]
            refine ⟨fun hlt => ?_, fun hlt => ?_⟩
            · cbv
              simp only [implies_true, and_true, true_and, IX.v_lit, IX.v_nat, IX.v_sy, BX.v_lit, BX.v_sy, NX.v_lit, NX.v_sy, addN, in_true, eq_self, Nat.succ_eq_add_one, intD_eq, encInt_le, encText_le, encSpan_le, encPair_le, encBox_le, encNote_le, encSight_le, cell_i_le, Nat.add_zero, Int.toNat_natCast, Nat.lt_irrefl, if_false, and_self, ncast, imp_self, in_self, in_self2, in_and, Int.cast_ofNat_Int, in_and2, ltB_t, ltB_f, leB_t, leB_f, eqB_t, eqB_f, ltNB_t, ltNB_f, leNB_t, leNB_f, eqNB_t, eqNB_f, noT, noF, Bool.and_eq_true, Bool.or_eq_true, Bool.and_eq_false_iff, Bool.or_eq_false_iff]
              refine ⟨⟨by omega⟩, ⟨by omega⟩, ⟨(notes_at ns _ _ rfl).1, by rw [(notes_at ns _ _ rfl).2]; omega, by rw [(notes_at ns _ _ rfl).2]; omega⟩, ?_⟩
              try simp only [in_true, eq_self, and_true, true_and, ints, texts, spans, pairs, boxs, notes, sights, seen, lget, reduceIte, Nat.reduceEqDiff, reduceCtorEq, Nat.succ_ne_self, Nat.zero_ne_one, Nat.one_ne_zero, int_row0, int_row, text_row, span_row, pair_row, box_row, note_row, sight_row]
              have hdl := delL_len ns noteD i
              have hcut : ∀ (side : Prop) (r : List Nat), listOf noteCod ⟨side, .sy (fun _ => ns.length - 1) 0, 4, fun e => encNote fun _ => (delL ns noteD i).getD e noteD, r⟩ = lessN ns i := fun side r => cut_row noteCod (delL ns noteD i) (by omega)
              simp only [hcut]
              refine ⟨⟨nat_fits hlt hnz⟩, ⟨(notes_at ns _ _ rfl).1, by omega, by omega, by omega, by omega⟩, ⟨cutN_side rfl rfl ⟨by show ns.length - 1 ≤ (delL ns noteD i).length; omega⟩ (by omega) (by omega) (by omega), run_lessN hR i⟩, fun hy => ?_, fun hy => ?_⟩
              · have hN : needN st pl sk ss ns i = true := hy
                have h2 : need2 st pl sk ss ns (i + 1) = need2 st pl sk ss ns i ++ [(ns.getD i noteD).id] := by rw [need2, hN]; rfl
                have h3 := need2_len st pl sk ss ns i
                cbv
                simp only [implies_true, and_true, true_and, IX.v_lit, IX.v_nat, IX.v_sy, BX.v_lit, BX.v_sy, NX.v_lit, NX.v_sy, addN, in_true, eq_self, Nat.succ_eq_add_one, intD_eq, encInt_le, encText_le, encSpan_le, encPair_le, encBox_le, encNote_le, encSight_le, cell_i_le, Nat.add_zero, Int.toNat_natCast, Nat.lt_irrefl, if_false, and_self, ncast, imp_self, in_self, in_self2, in_and, Int.cast_ofNat_Int, in_and2, ltB_t, ltB_f, leB_t, leB_f, eqB_t, eqB_f, ltNB_t, ltNB_f, leNB_t, leNB_f, eqNB_t, eqNB_f, noT, noF, Bool.and_eq_true, Bool.or_eq_true, Bool.and_eq_false_iff, Bool.or_eq_false_iff]
                refine ⟨⟨by omega, by omega⟩, ⟨nat_fits hlt hnz⟩, ⟨i + 1, by omega⟩, LeBy.le (pins := []) (fun i u h => by cases h) (l := [(0, .old 0), (1, .old 1), (2, .old 2), (3, .old 8)]) ?_, by show ns.length - (i + 1) < ns.length - i; omega⟩
                cbv
                simp only [implies_true, and_true, true_and, IX.v_lit, IX.v_nat, IX.v_sy, BX.v_lit, BX.v_sy, NX.v_lit, NX.v_sy, addN, in_true, eq_self, Nat.succ_eq_add_one, intD_eq, encInt_le, encText_le, encSpan_le, encPair_le, encBox_le, encNote_le, encSight_le, cell_i_le, Nat.add_zero, Int.toNat_natCast, Nat.lt_irrefl, if_false, and_self, ncast, imp_self, in_self, in_self2, in_and, Int.cast_ofNat_Int, in_and2, ltB_t, ltB_f, leB_t, leB_f, eqB_t, eqB_f, ltNB_t, ltNB_f, leNB_t, leNB_f, eqNB_t, eqNB_f, noT, noF, Bool.and_eq_true, Bool.or_eq_true, Bool.and_eq_false_iff, Bool.or_eq_false_iff]
                refine ⟨⟨by rw [h2, List.length_append]; rfl⟩, ⟨fun e he => ?_⟩⟩
                by_cases h1 : e < (need2 st pl sk ss ns i).length
                · simp only [h1, if_true]
                  rw [show (fun x : PUnit => (need2 st pl sk ss ns (i + 1)).getD e 0) = fun _ => (need2 st pl sk ss ns i).getD e 0 from funext fun _ => by rw [h2, List.getD_eq_getElem?_getD, List.getD_eq_getElem?_getD, List.getElem?_append_left h1, ← List.getD_eq_getElem?_getD]]
                  exact closedL_le rfl
                · simp only [h1, if_false]
                  obtain rfl : e = (need2 st pl sk ss ns i).length := by omega
                  rw [Nat.sub_self]
                  exact int1_le (x := .sy fun _ => (ns.getD i noteD).id) (y := .sy fun _ => (need2 st pl sk ss ns (i + 1)).getD (need2 st pl sk ss ns i).length 0) (by
                    show (need2 st pl sk ss ns (i + 1)).getD (need2 st pl sk ss ns i).length 0 = (ns.getD i noteD).id
                    rw [h2, List.getD_eq_getElem?_getD]
                    simp)
              · have hN : needN st pl sk ss ns i = false := hy
                have h2 : need2 st pl sk ss ns (i + 1) = need2 st pl sk ss ns i := by rw [need2, hN]; rfl
                cbv
                simp only [implies_true, and_true, true_and, IX.v_lit, IX.v_nat, IX.v_sy, BX.v_lit, BX.v_sy, NX.v_lit, NX.v_sy, addN, in_true, eq_self, Nat.succ_eq_add_one, intD_eq, encInt_le, encText_le, encSpan_le, encPair_le, encBox_le, encNote_le, encSight_le, cell_i_le, Nat.add_zero, Int.toNat_natCast, Nat.lt_irrefl, if_false, and_self, ncast, imp_self, in_self, in_self2, in_and, Int.cast_ofNat_Int, in_and2, ltB_t, ltB_f, leB_t, leB_f, eqB_t, eqB_f, ltNB_t, ltNB_f, leNB_t, leNB_f, eqNB_t, eqNB_f, noT, noF, Bool.and_eq_true, Bool.or_eq_true, Bool.and_eq_false_iff, Bool.or_eq_false_iff]
                refine ⟨⟨nat_fits hlt hnz⟩, ⟨i + 1, by omega⟩, LeBy.le (pins := []) (fun i u h => by cases h) (l := [(0, .old 0), (1, .old 1), (2, .old 2), (3, .old 3)]) ?_, by show ns.length - (i + 1) < ns.length - i; omega⟩
                cbv
                simp only [implies_true, and_true, true_and, IX.v_lit, IX.v_nat, IX.v_sy, BX.v_lit, BX.v_sy, NX.v_lit, NX.v_sy, addN, in_true, eq_self, Nat.succ_eq_add_one, intD_eq, encInt_le, encText_le, encSpan_le, encPair_le, encBox_le, encNote_le, encSight_le, cell_i_le, Nat.add_zero, Int.toNat_natCast, Nat.lt_irrefl, if_false, and_self, ncast, imp_self, in_self, in_self2, in_and, Int.cast_ofNat_Int, in_and2, ltB_t, ltB_f, leB_t, leB_f, eqB_t, eqB_f, ltNB_t, ltNB_f, leNB_t, leNB_f, eqNB_t, eqNB_f, noT, noF, Bool.and_eq_true, Bool.or_eq_true, Bool.and_eq_false_iff, Bool.or_eq_false_iff]
                exact ⟨⟨by rw [h2]⟩, ⟨fun e he => by rw [h2]; exact closedL_le rfl⟩⟩
            · obtain rfl : i = ns.length := by omega
              have h3 := need2_len st pl sk ss ns ns.length
              cbv
              refine ⟨⟨(ints_at (need2 st pl sk ss ns ns.length) _ _ rfl).1, by rw [(ints_at (need2 st pl sk ss ns ns.length) _ _ rfl).2]; omega⟩, ?_⟩
              try simp only [in_true, eq_self, and_true, true_and, ints, texts, spans, pairs, boxs, notes, sights, seen, lget, reduceIte, Nat.reduceEqDiff, reduceCtorEq, Nat.succ_ne_self, Nat.zero_ne_one, Nat.one_ne_zero, int_row0, int_row, text_row, span_row, pair_row, box_row, note_row, sight_row]
              refine ⟨[.old 3], ?_⟩
              cbv
              simp only [implies_true, and_true, true_and, IX.v_lit, IX.v_nat, IX.v_sy, BX.v_lit, BX.v_sy, NX.v_lit, NX.v_sy, addN, in_true, eq_self, Nat.succ_eq_add_one, intD_eq, encInt_le, encText_le, encSpan_le, encPair_le, encBox_le, encNote_le, encSight_le, cell_i_le, Nat.add_zero, Int.toNat_natCast, Nat.lt_irrefl, if_false, and_self, ncast, imp_self, in_self, in_self2, in_and, Int.cast_ofNat_Int, in_and2, ltB_t, ltB_f, leB_t, leB_f, eqB_t, eqB_f, ltNB_t, ltNB_f, leNB_t, leNB_f, eqNB_t, eqNB_f, noT, noF, Bool.and_eq_true, Bool.or_eq_true, Bool.and_eq_false_iff, Bool.or_eq_false_iff]
              have e1 : needsL st pl sk ss ns = sortI (need2 st pl sk ss ns ns.length) := by unfold needsL; rw [decide_eq_true h]; rfl
              rw [e1]
              exact ⟨⟨⟨rfl⟩, ⟨fun e he => closedL_le rfl⟩⟩, ⟨h⟩⟩
    · have hw : wholeV st pl sk ss ns = -1 := by unfold wholeV; rw [show someK st pl sk ss ns (3 ^ (ss.length - 1)) = false from hs]; rfl
      cbv
      simp only [implies_true, and_true, true_and, IX.v_lit, IX.v_nat, IX.v_sy, BX.v_lit, BX.v_sy, NX.v_lit, NX.v_sy, addN, in_true, eq_self, Nat.succ_eq_add_one, intD_eq, encInt_le, encText_le, encSpan_le, encPair_le, encBox_le, encNote_le, encSight_le, cell_i_le, Nat.add_zero, Int.toNat_natCast, Nat.lt_irrefl, if_false, and_self, ncast, imp_self, in_self, in_self2, in_and, Int.cast_ofNat_Int, in_and2, noT, noF]
      refine ⟨{i : Nat // i ≤ ss.length}, fun i => ⟨[(1, .lit true, .one (.ref 2)), (5, .lit true, cint .i64 (.sy fun _ => wholeV st pl sk ss ns)), (8, .lit true, .one (.ref 3)), (29, .lit true, .one (.ref 0)), (30, .lit true, cint .i64 (.nat (fun _ => ss.length) 0)), (31, .lit true, cint .i64 (.nat (fun _ => i.1) 0))], [(0, sightRow .ro ss), (1, noteRow .ro ns), (2, .box true 27 [.i .i64 (.sy fun _ => st), .i .i64 (.sy fun _ => pl), .i .i64 (.sy fun _ => sk), .ref 0, .ref 1]), (3, intRowT 3 fun _ => need1 st pl sk ss ns i.1)], 4⟩, fun i => ss.length - i.1, ⟨0, Nat.zero_le _⟩, LeBy.le (pins := []) (fun i u h => by cases h) (l := [(0, .old 0), (1, .old 1), (2, .old 2), (3, .nil)]) ?_, fun i => ?_⟩
      · cbv
        simp only [implies_true, and_true, true_and, IX.v_lit, IX.v_nat, IX.v_sy, BX.v_lit, BX.v_sy, NX.v_lit, NX.v_sy, addN, in_true, eq_self, Nat.succ_eq_add_one, intD_eq, encInt_le, encText_le, encSpan_le, encPair_le, encBox_le, encNote_le, encSight_le, cell_i_le, Nat.add_zero, Int.toNat_natCast, Nat.lt_irrefl, if_false, and_self, ncast, imp_self, in_self, in_self2, in_and, Int.cast_ofNat_Int, in_and2, noT, noF]
        exact ⟨⟨rfl⟩, ⟨hw⟩⟩
      · obtain ⟨i, hi⟩ := i
        cbv
        simp only [implies_true, and_true, true_and, IX.v_lit, IX.v_nat, IX.v_sy, BX.v_lit, BX.v_sy, NX.v_lit, NX.v_sy, addN, in_true, eq_self, Nat.succ_eq_add_one, intD_eq, encInt_le, encText_le, encSpan_le, encPair_le, encBox_le, encNote_le, encSight_le, cell_i_le, Nat.add_zero, Int.toNat_natCast, Nat.lt_irrefl, if_false, and_self, ncast, imp_self, in_self, in_self2, in_and, Int.cast_ofNat_Int, in_and2, ltB_t, ltB_f, leB_t, leB_f, eqB_t, eqB_f, ltNB_t, ltNB_f, leNB_t, leNB_f, eqNB_t, eqNB_f, noT, noF, Bool.and_eq_true, Bool.or_eq_true, Bool.and_eq_false_iff, Bool.or_eq_false_iff]
        refine ⟨fun hlt => ?_, fun hlt => ?_⟩
        · cbv
          simp only [implies_true, and_true, true_and, IX.v_lit, IX.v_nat, IX.v_sy, BX.v_lit, BX.v_sy, NX.v_lit, NX.v_sy, addN, in_true, eq_self, Nat.succ_eq_add_one, intD_eq, encInt_le, encText_le, encSpan_le, encPair_le, encBox_le, encNote_le, encSight_le, cell_i_le, Nat.add_zero, Int.toNat_natCast, Nat.lt_irrefl, if_false, and_self, ncast, imp_self, in_self, in_self2, in_and, Int.cast_ofNat_Int, in_and2, ltB_t, ltB_f, leB_t, leB_f, eqB_t, eqB_f, ltNB_t, ltNB_f, leNB_t, leNB_f, eqNB_t, eqNB_f, noT, noF, Bool.and_eq_true, Bool.or_eq_true, Bool.and_eq_false_iff, Bool.or_eq_false_iff]
          refine ⟨⟨by omega⟩, ⟨by omega⟩, ⟨(sights_at ss _ _ rfl).1, by rw [(sights_at ss _ _ rfl).2]; omega, by rw [(sights_at ss _ _ rfl).2]; omega⟩, ?_⟩
          try simp only [in_true, eq_self, and_true, true_and, ints, texts, spans, pairs, boxs, notes, sights, seen, lget, reduceIte, Nat.reduceEqDiff, reduceCtorEq, Nat.succ_ne_self, Nat.zero_ne_one, Nat.one_ne_zero, int_row0, int_row, text_row, span_row, pair_row, box_row, note_row, sight_row]
          have hdl := delL_len ss sightD i
          have hcut : ∀ (side : Prop) (r : List Nat), listOf sightCod ⟨side, .sy (fun _ => ss.length - 1) 0, 9, fun e => encSight fun _ => (delL ss sightD i).getD e sightD, r⟩ = lessS ss i := fun side r => cut_row sightCod (delL ss sightD i) (by omega)
          simp only [hcut]
          refine ⟨⟨nat_fits hlt hsz⟩, ⟨(sights_at ss _ _ rfl).1, by omega, by omega, by omega, by omega⟩, fun h1 => ⟨cutS_side rfl rfl ⟨by show ss.length - 1 ≤ (delL ss sightD i).length; omega⟩ (by omega) (by omega) (by omega), run_less hR (by omega) i⟩, fun hy => ?_, fun hy => ?_⟩
          · have hN : needS st pl sk ss ns i = true := by
              unfold needS
              rw [hy.2, decide_eq_true (by (first | omega | (simp only [ncast] at *; omega)))]
              rfl
            have h2 : need1 st pl sk ss ns (i + 1) = need1 st pl sk ss ns i ++ [(ss.getD i sightD).id] := by rw [need1, hN]; rfl
            have h3 := need1_len st pl sk ss ns i
            cbv
            simp only [implies_true, and_true, true_and, IX.v_lit, IX.v_nat, IX.v_sy, BX.v_lit, BX.v_sy, NX.v_lit, NX.v_sy, addN, in_true, eq_self, Nat.succ_eq_add_one, intD_eq, encInt_le, encText_le, encSpan_le, encPair_le, encBox_le, encNote_le, encSight_le, cell_i_le, Nat.add_zero, Int.toNat_natCast, Nat.lt_irrefl, if_false, and_self, ncast, imp_self, in_self, in_self2, in_and, Int.cast_ofNat_Int, in_and2, ltB_t, ltB_f, leB_t, leB_f, eqB_t, eqB_f, ltNB_t, ltNB_f, leNB_t, leNB_f, eqNB_t, eqNB_f, noT, noF, Bool.and_eq_true, Bool.or_eq_true, Bool.and_eq_false_iff, Bool.or_eq_false_iff]
            refine ⟨⟨by omega, by omega⟩, ⟨nat_fits hlt hsz⟩, ⟨i + 1, by omega⟩, LeBy.le (pins := []) (fun i u h => by cases h) (l := [(0, .old 0), (1, .old 1), (2, .old 2), (3, .old 8)]) ?_, by show ss.length - (i + 1) < ss.length - i; omega⟩
            cbv
            simp only [implies_true, and_true, true_and, IX.v_lit, IX.v_nat, IX.v_sy, BX.v_lit, BX.v_sy, NX.v_lit, NX.v_sy, addN, in_true, eq_self, Nat.succ_eq_add_one, intD_eq, encInt_le, encText_le, encSpan_le, encPair_le, encBox_le, encNote_le, encSight_le, cell_i_le, Nat.add_zero, Int.toNat_natCast, Nat.lt_irrefl, if_false, and_self, ncast, imp_self, in_self, in_self2, in_and, Int.cast_ofNat_Int, in_and2, ltB_t, ltB_f, leB_t, leB_f, eqB_t, eqB_f, ltNB_t, ltNB_f, leNB_t, leNB_f, eqNB_t, eqNB_f, noT, noF, Bool.and_eq_true, Bool.or_eq_true, Bool.and_eq_false_iff, Bool.or_eq_false_iff]
            refine ⟨⟨by rw [h2, List.length_append]; rfl⟩, ⟨fun e he => ?_⟩⟩
            by_cases h1 : e < (need1 st pl sk ss ns i).length
            · simp only [h1, if_true]
              rw [show (fun x : PUnit => (need1 st pl sk ss ns (i + 1)).getD e 0) = fun _ => (need1 st pl sk ss ns i).getD e 0 from funext fun _ => by rw [h2, List.getD_eq_getElem?_getD, List.getD_eq_getElem?_getD, List.getElem?_append_left h1, ← List.getD_eq_getElem?_getD]]
              exact closedL_le rfl
            · simp only [h1, if_false]
              obtain rfl : e = (need1 st pl sk ss ns i).length := by omega
              rw [Nat.sub_self]
              exact int1_le (x := .sy fun _ => (ss.getD i sightD).id) (y := .sy fun _ => (need1 st pl sk ss ns (i + 1)).getD (need1 st pl sk ss ns i).length 0) (by
                show (need1 st pl sk ss ns (i + 1)).getD (need1 st pl sk ss ns i).length 0 = (ss.getD i sightD).id
                rw [h2, List.getD_eq_getElem?_getD]
                simp)
          · have hN : needS st pl sk ss ns i = false := by
              unfold needS
              rcases hy with hy | hy
              · rw [decide_eq_false (by (first | omega | (simp only [ncast] at *; omega)))]
                rfl
              · rw [hy, Bool.and_false]
            have h2 : need1 st pl sk ss ns (i + 1) = need1 st pl sk ss ns i := by rw [need1, hN]; rfl
            cbv
            simp only [implies_true, and_true, true_and, IX.v_lit, IX.v_nat, IX.v_sy, BX.v_lit, BX.v_sy, NX.v_lit, NX.v_sy, addN, in_true, eq_self, Nat.succ_eq_add_one, intD_eq, encInt_le, encText_le, encSpan_le, encPair_le, encBox_le, encNote_le, encSight_le, cell_i_le, Nat.add_zero, Int.toNat_natCast, Nat.lt_irrefl, if_false, and_self, ncast, imp_self, in_self, in_self2, in_and, Int.cast_ofNat_Int, in_and2, ltB_t, ltB_f, leB_t, leB_f, eqB_t, eqB_f, ltNB_t, ltNB_f, leNB_t, leNB_f, eqNB_t, eqNB_f, noT, noF, Bool.and_eq_true, Bool.or_eq_true, Bool.and_eq_false_iff, Bool.or_eq_false_iff]
            refine ⟨⟨nat_fits hlt hsz⟩, ⟨i + 1, by omega⟩, LeBy.le (pins := []) (fun i u h => by cases h) (l := [(0, .old 0), (1, .old 1), (2, .old 2), (3, .old 3)]) ?_, by show ss.length - (i + 1) < ss.length - i; omega⟩
            cbv
            simp only [implies_true, and_true, true_and, IX.v_lit, IX.v_nat, IX.v_sy, BX.v_lit, BX.v_sy, NX.v_lit, NX.v_sy, addN, in_true, eq_self, Nat.succ_eq_add_one, intD_eq, encInt_le, encText_le, encSpan_le, encPair_le, encBox_le, encNote_le, encSight_le, cell_i_le, Nat.add_zero, Int.toNat_natCast, Nat.lt_irrefl, if_false, and_self, ncast, imp_self, in_self, in_self2, in_and, Int.cast_ofNat_Int, in_and2, ltB_t, ltB_f, leB_t, leB_f, eqB_t, eqB_f, ltNB_t, ltNB_f, leNB_t, leNB_f, eqNB_t, eqNB_f, noT, noF, Bool.and_eq_true, Bool.or_eq_true, Bool.and_eq_false_iff, Bool.or_eq_false_iff]
            exact ⟨⟨by rw [h2]⟩, ⟨fun e he => by rw [h2]; exact closedL_le rfl⟩⟩
        · obtain rfl : i = ss.length := by omega
          cbv
          refine ⟨{i : Nat // i ≤ ns.length}, fun i => ⟨[(1, .lit true, .one (.ref 2)), (5, .lit true, cint .i64 (.sy fun _ => wholeV st pl sk ss ns)), (8, .lit true, .one (.ref 3)), (61, .lit true, .one (.ref 1)), (62, .lit true, cint .i64 (.nat (fun _ => ns.length) 0)), (63, .lit true, cint .i64 (.nat (fun _ => i.1) 0))], [(0, sightRow .ro ss), (1, noteRow .ro ns), (2, .box true 27 [.i .i64 (.sy fun _ => st), .i .i64 (.sy fun _ => pl), .i .i64 (.sy fun _ => sk), .ref 0, .ref 1]), (3, intRowT 3 fun _ => need2 st pl sk ss ns i.1)], 4⟩, fun i => ns.length - i.1, ⟨0, Nat.zero_le _⟩, LeBy.le (pins := []) (fun i u h => by cases h) (l := [(0, .old 0), (1, .old 1), (2, .old 2), (3, .old 3)]) ?_, fun i => ?_⟩
          · cbv
            simp only [implies_true, and_true, true_and, IX.v_lit, IX.v_nat, IX.v_sy, BX.v_lit, BX.v_sy, NX.v_lit, NX.v_sy, addN, in_true, eq_self, Nat.succ_eq_add_one, intD_eq, encInt_le, encText_le, encSpan_le, encPair_le, encBox_le, encNote_le, encSight_le, cell_i_le, Nat.add_zero, Int.toNat_natCast, Nat.lt_irrefl, if_false, and_self, ncast, imp_self, in_self, in_self2, in_and, Int.cast_ofNat_Int, in_and2, noT, noF]
            exact ⟨⟨rfl⟩, ⟨fun e he => closedL_le rfl⟩⟩
          · obtain ⟨i, hi⟩ := i
            cbv
            simp only [implies_true, and_true, true_and, IX.v_lit, IX.v_nat, IX.v_sy, BX.v_lit, BX.v_sy, NX.v_lit, NX.v_sy, addN, in_true, eq_self, Nat.succ_eq_add_one, intD_eq, encInt_le, encText_le, encSpan_le, encPair_le, encBox_le, encNote_le, encSight_le, cell_i_le, Nat.add_zero, Int.toNat_natCast, Nat.lt_irrefl, if_false, and_self, ncast, imp_self, in_self, in_self2, in_and, Int.cast_ofNat_Int, in_and2, ltB_t, ltB_f, leB_t, leB_f, eqB_t, eqB_f, ltNB_t, ltNB_f, leNB_t, leNB_f, eqNB_t, eqNB_f, noT, noF, Bool.and_eq_true, Bool.or_eq_true, Bool.and_eq_false_iff, Bool.or_eq_false_iff]
            refine ⟨fun hlt => ?_, fun hlt => ?_⟩
            · cbv
              simp only [implies_true, and_true, true_and, IX.v_lit, IX.v_nat, IX.v_sy, BX.v_lit, BX.v_sy, NX.v_lit, NX.v_sy, addN, in_true, eq_self, Nat.succ_eq_add_one, intD_eq, encInt_le, encText_le, encSpan_le, encPair_le, encBox_le, encNote_le, encSight_le, cell_i_le, Nat.add_zero, Int.toNat_natCast, Nat.lt_irrefl, if_false, and_self, ncast, imp_self, in_self, in_self2, in_and, Int.cast_ofNat_Int, in_and2, ltB_t, ltB_f, leB_t, leB_f, eqB_t, eqB_f, ltNB_t, ltNB_f, leNB_t, leNB_f, eqNB_t, eqNB_f, noT, noF, Bool.and_eq_true, Bool.or_eq_true, Bool.and_eq_false_iff, Bool.or_eq_false_iff]
              refine ⟨⟨by omega⟩, ⟨by omega⟩, ⟨(notes_at ns _ _ rfl).1, by rw [(notes_at ns _ _ rfl).2]; omega, by rw [(notes_at ns _ _ rfl).2]; omega⟩, ?_⟩
              try simp only [in_true, eq_self, and_true, true_and, ints, texts, spans, pairs, boxs, notes, sights, seen, lget, reduceIte, Nat.reduceEqDiff, reduceCtorEq, Nat.succ_ne_self, Nat.zero_ne_one, Nat.one_ne_zero, int_row0, int_row, text_row, span_row, pair_row, box_row, note_row, sight_row]
              have hdl := delL_len ns noteD i
              have hcut : ∀ (side : Prop) (r : List Nat), listOf noteCod ⟨side, .sy (fun _ => ns.length - 1) 0, 4, fun e => encNote fun _ => (delL ns noteD i).getD e noteD, r⟩ = lessN ns i := fun side r => cut_row noteCod (delL ns noteD i) (by omega)
              simp only [hcut]
              refine ⟨⟨nat_fits hlt hnz⟩, ⟨(notes_at ns _ _ rfl).1, by omega, by omega, by omega, by omega⟩, ⟨cutN_side rfl rfl ⟨by show ns.length - 1 ≤ (delL ns noteD i).length; omega⟩ (by omega) (by omega) (by omega), run_lessN hR i⟩, fun hy => ?_, fun hy => ?_⟩
              · have hN : needN st pl sk ss ns i = true := hy
                have h2 : need2 st pl sk ss ns (i + 1) = need2 st pl sk ss ns i ++ [(ns.getD i noteD).id] := by rw [need2, hN]; rfl
                have h3 := need2_len st pl sk ss ns i
                cbv
                simp only [implies_true, and_true, true_and, IX.v_lit, IX.v_nat, IX.v_sy, BX.v_lit, BX.v_sy, NX.v_lit, NX.v_sy, addN, in_true, eq_self, Nat.succ_eq_add_one, intD_eq, encInt_le, encText_le, encSpan_le, encPair_le, encBox_le, encNote_le, encSight_le, cell_i_le, Nat.add_zero, Int.toNat_natCast, Nat.lt_irrefl, if_false, and_self, ncast, imp_self, in_self, in_self2, in_and, Int.cast_ofNat_Int, in_and2, ltB_t, ltB_f, leB_t, leB_f, eqB_t, eqB_f, ltNB_t, ltNB_f, leNB_t, leNB_f, eqNB_t, eqNB_f, noT, noF, Bool.and_eq_true, Bool.or_eq_true, Bool.and_eq_false_iff, Bool.or_eq_false_iff]
                refine ⟨⟨by omega, by omega⟩, ⟨nat_fits hlt hnz⟩, ⟨i + 1, by omega⟩, LeBy.le (pins := []) (fun i u h => by cases h) (l := [(0, .old 0), (1, .old 1), (2, .old 2), (3, .old 8)]) ?_, by show ns.length - (i + 1) < ns.length - i; omega⟩
                cbv
                simp only [implies_true, and_true, true_and, IX.v_lit, IX.v_nat, IX.v_sy, BX.v_lit, BX.v_sy, NX.v_lit, NX.v_sy, addN, in_true, eq_self, Nat.succ_eq_add_one, intD_eq, encInt_le, encText_le, encSpan_le, encPair_le, encBox_le, encNote_le, encSight_le, cell_i_le, Nat.add_zero, Int.toNat_natCast, Nat.lt_irrefl, if_false, and_self, ncast, imp_self, in_self, in_self2, in_and, Int.cast_ofNat_Int, in_and2, ltB_t, ltB_f, leB_t, leB_f, eqB_t, eqB_f, ltNB_t, ltNB_f, leNB_t, leNB_f, eqNB_t, eqNB_f, noT, noF, Bool.and_eq_true, Bool.or_eq_true, Bool.and_eq_false_iff, Bool.or_eq_false_iff]
                refine ⟨⟨by rw [h2, List.length_append]; rfl⟩, ⟨fun e he => ?_⟩⟩
                by_cases h1 : e < (need2 st pl sk ss ns i).length
                · simp only [h1, if_true]
                  rw [show (fun x : PUnit => (need2 st pl sk ss ns (i + 1)).getD e 0) = fun _ => (need2 st pl sk ss ns i).getD e 0 from funext fun _ => by rw [h2, List.getD_eq_getElem?_getD, List.getD_eq_getElem?_getD, List.getElem?_append_left h1, ← List.getD_eq_getElem?_getD]]
                  exact closedL_le rfl
                · simp only [h1, if_false]
                  obtain rfl : e = (need2 st pl sk ss ns i).length := by omega
                  rw [Nat.sub_self]
                  exact int1_le (x := .sy fun _ => (ns.getD i noteD).id) (y := .sy fun _ => (need2 st pl sk ss ns (i + 1)).getD (need2 st pl sk ss ns i).length 0) (by
                    show (need2 st pl sk ss ns (i + 1)).getD (need2 st pl sk ss ns i).length 0 = (ns.getD i noteD).id
                    rw [h2, List.getD_eq_getElem?_getD]
                    simp)
              · have hN : needN st pl sk ss ns i = false := hy
                have h2 : need2 st pl sk ss ns (i + 1) = need2 st pl sk ss ns i := by rw [need2, hN]; rfl
                cbv
                simp only [implies_true, and_true, true_and, IX.v_lit, IX.v_nat, IX.v_sy, BX.v_lit, BX.v_sy, NX.v_lit, NX.v_sy, addN, in_true, eq_self, Nat.succ_eq_add_one, intD_eq, encInt_le, encText_le, encSpan_le, encPair_le, encBox_le, encNote_le, encSight_le, cell_i_le, Nat.add_zero, Int.toNat_natCast, Nat.lt_irrefl, if_false, and_self, ncast, imp_self, in_self, in_self2, in_and, Int.cast_ofNat_Int, in_and2, ltB_t, ltB_f, leB_t, leB_f, eqB_t, eqB_f, ltNB_t, ltNB_f, leNB_t, leNB_f, eqNB_t, eqNB_f, noT, noF, Bool.and_eq_true, Bool.or_eq_true, Bool.and_eq_false_iff, Bool.or_eq_false_iff]
                refine ⟨⟨nat_fits hlt hnz⟩, ⟨i + 1, by omega⟩, LeBy.le (pins := []) (fun i u h => by cases h) (l := [(0, .old 0), (1, .old 1), (2, .old 2), (3, .old 3)]) ?_, by show ns.length - (i + 1) < ns.length - i; omega⟩
                cbv
                simp only [implies_true, and_true, true_and, IX.v_lit, IX.v_nat, IX.v_sy, BX.v_lit, BX.v_sy, NX.v_lit, NX.v_sy, addN, in_true, eq_self, Nat.succ_eq_add_one, intD_eq, encInt_le, encText_le, encSpan_le, encPair_le, encBox_le, encNote_le, encSight_le, cell_i_le, Nat.add_zero, Int.toNat_natCast, Nat.lt_irrefl, if_false, and_self, ncast, imp_self, in_self, in_self2, in_and, Int.cast_ofNat_Int, in_and2, ltB_t, ltB_f, leB_t, leB_f, eqB_t, eqB_f, ltNB_t, ltNB_f, leNB_t, leNB_f, eqNB_t, eqNB_f, noT, noF, Bool.and_eq_true, Bool.or_eq_true, Bool.and_eq_false_iff, Bool.or_eq_false_iff]
                exact ⟨⟨by rw [h2]⟩, ⟨fun e he => by rw [h2]; exact closedL_le rfl⟩⟩
            · obtain rfl : i = ns.length := by omega
              have h3 := need2_len st pl sk ss ns ns.length
              cbv
              refine ⟨⟨(ints_at (need2 st pl sk ss ns ns.length) _ _ rfl).1, by rw [(ints_at (need2 st pl sk ss ns ns.length) _ _ rfl).2]; omega⟩, ?_⟩
              try simp only [in_true, eq_self, and_true, true_and, ints, texts, spans, pairs, boxs, notes, sights, seen, lget, reduceIte, Nat.reduceEqDiff, reduceCtorEq, Nat.succ_ne_self, Nat.zero_ne_one, Nat.one_ne_zero, int_row0, int_row, text_row, span_row, pair_row, box_row, note_row, sight_row]
              refine ⟨[.old 3], ?_⟩
              cbv
              simp only [implies_true, and_true, true_and, IX.v_lit, IX.v_nat, IX.v_sy, BX.v_lit, BX.v_sy, NX.v_lit, NX.v_sy, addN, in_true, eq_self, Nat.succ_eq_add_one, intD_eq, encInt_le, encText_le, encSpan_le, encPair_le, encBox_le, encNote_le, encSight_le, cell_i_le, Nat.add_zero, Int.toNat_natCast, Nat.lt_irrefl, if_false, and_self, ncast, imp_self, in_self, in_self2, in_and, Int.cast_ofNat_Int, in_and2, ltB_t, ltB_f, leB_t, leB_f, eqB_t, eqB_f, ltNB_t, ltNB_f, leNB_t, leNB_f, eqNB_t, eqNB_f, noT, noF, Bool.and_eq_true, Bool.or_eq_true, Bool.and_eq_false_iff, Bool.or_eq_false_iff]
              have e1 : needsL st pl sk ss ns = sortI (need2 st pl sk ss ns ns.length) := by unfold needsL; rw [decide_eq_true h]; rfl
              rw [e1]
              exact ⟨⟨⟨rfl⟩, ⟨fun e he => closedL_le rfl⟩⟩, ⟨h⟩⟩
def spNeeds : Spec := fun args M base => match args with
  | [.agg [.i .i64 st, .i .i64 pl, .i .i64 sk, c, d]] => ⟨In fun _ => okLife M c d, .tup [.one (.ref base), .one (.i .i64 (.sy fun _ => checkE st.val pl.val sk.val (sights M c) (notes M d)))], [intRowT 3 fun _ => needsL st.val pl.val sk.val (sights M c) (notes M d)], [], (seen M c).reads ++ (seen M d).reads⟩
  | _ => bad
theorem congrNeeds : spNeeds.Congr := by
  intro args M M' base hs h
  unfold spNeeds at *
  split at hs
  · simp only [okLife, okSights, okNotes, sights, notes] at h ⊢
    rw [seen_congr (M := M) (M' := M') (fun i hi => h i (List.mem_append_left _ hi)), seen_congr (M := M) (M' := M') (fun i hi => h i (List.mem_append_right _ hi))]
  · exact hs.elim
theorem okNeeds : SpecOk F0 Tryz.prog 33 spNeeds := by
  refine spec_gen (e := en needsG) (en_ok ⟨okCheck, okLeast91, okChanges, okCloneSight, okDelSight, okFewer, okCloneNote, okDelNote, okSort, trivial⟩) rfl (fn := Tryz.f33) (c := fbody Tryz.f33) (by kernel_rfl) rfl rfl (by kernel_rfl) congrNeeds fun args M base hs => ?_
  unfold spNeeds at hs ⊢
  split at hs
  · rename_i st pl sk c d
    exact ⟨[.agg [.i .i64 (.sy fun _ => st.val), .i .i64 (.sy fun _ => pl.val), .i .i64 (.sy fun _ => sk.val), .ref 0, .ref 1]], [sightRow .ro (sights M c), noteRow .ro (notes M d)], fun base => .tup [.one (.ref base), .one (.i .i64 (.sy fun _ => checkE st.val pl.val sk.val (sights M c) (notes M d)))], fun _ => [intRowT 3 fun _ => needsL st.val pl.val sk.val (sights M c) (notes M d)], Nat.le_of_ble_eq_true rfl, ⟨rfl, trivial⟩, .val rfl (.val rfl (.val rfl (.row (sight_from hs.ok.1) (.row (note_from hs.ok.2.1) .nil)))), rfl, rfl, rfl, ⟨tauN_at (t := 0) (Nat.zero_lt_one : 0 < 1), ⟨isT_iff.2 rfl, ⟨rfl⟩⟩, trivial⟩, ⟨rowOf_le intCod .own _ _, trivial⟩, own1 rfl, needs_vc hs.ok.2.2.1 hs.ok.2.2.2⟩
  · exact hs.elim
end Go.Proofs.YthgllnnlngihoaaGreat.Sx
end
section
set_option linter.unusedVariables false
set_option linter.unusedSimpArgs false
set_option maxRecDepth 100000
namespace Go.Proofs.YthgllnnlngihoaaGreat.Sx
open Go.RowKit

def spGrown : Spec := fun args M _ => match args with
  | [.agg [.i .i64 lo, .i .i64 hi], .one (.ref b1), .one (.ref b2)] => match M b1 with
    | some (.box _ _ [.i .i64 wd]) => match M b2 with
      | some (.box _ _ [.i .i64 l, .i .i64 h]) => ⟨In fun _ => fitsK .i64 (lo.val - wd.val) ∧ fitsK .i64 (hi.val + wd.val), .agg [.i .i64 (.sy fun _ => max (lo.val - wd.val) l.val), .i .i64 (.sy fun _ => min (hi.val + wd.val) h.val)], [], [], [b1, b2]⟩
      | _ => bad
    | _ => bad
  | _ => bad
theorem okGrown : SpecOk F0 Tryz.prog 195 spGrown := by
  refine spec_val (e := en [(196, spBoth)]) (en_ok ⟨okMeet, trivial⟩) rfl (fn := Tryz.f195) (c := fbody Tryz.f195) (by kernel_rfl) rfl rfl (by kernel_rfl) ?_ fun args M base hs => ?_
  · intro args M M' base hs h
    unfold spGrown at *
    split at hs
    · simp only at h hs ⊢
      split at hs
      · rename_i h1
        split at hs
        · rename_i h2
          simp only [h1, h2] at h
          rw [h _ (List.mem_cons_self ..), h1]
          simp only
          rw [h _ (List.mem_cons_of_mem _ (List.mem_cons_self ..)), h2]
        · exact hs.elim
      · exact hs.elim
    · exact hs.elim
  · unfold spGrown at hs ⊢
    split at hs
    · split at hs
      · split at hs
        · rename_i lo hi b1 b2 _ _ _ wd hM1 _ _ _ l h hM2
          simp only [hM1, hM2]
          obtain ⟨k1, k2⟩ := hs.ok
          refine ⟨[.agg [.i .i64 (.sy fun _ => lo.val), .i .i64 (.sy fun _ => hi.val)], .one (.ref 0), .one (.ref 1)], [.box false 0 [.i .i64 (.sy fun _ => wd.val)], .box false 0 [.i .i64 (.sy fun _ => l.val), .i .i64 (.sy fun _ => h.val)]], Nat.le_of_ble_eq_true rfl, ⟨rfl, trivial⟩, .val rfl (.val rfl (.box hM1 (.val rfl .nil) (.box hM2 (.val rfl (.val rfl .nil)) .nil))), rfl, trivial, trivial, fun B => ?_⟩
          cbv
          simp only [implies_true, and_true, true_and, IX.v_lit, IX.v_nat, IX.v_sy, BX.v_lit, BX.v_sy, NX.v_lit, NX.v_sy, addN, in_true, eq_self, Nat.succ_eq_add_one, intD_eq, encInt_le, encText_le, encSpan_le, encPair_le, encBox_le, encNote_le, encSight_le, cell_i_le, Nat.add_zero, Int.toNat_natCast, Nat.lt_irrefl, if_false, and_self, ncast, imp_self, in_self, in_self2, in_and, Int.cast_ofNat_Int, in_and2, ltB_t, ltB_f, leB_t, leB_f, eqB_t, eqB_f, ltNB_t, ltNB_f, leNB_t, leNB_f, eqNB_t, eqNB_f, noT, noF, Bool.and_eq_true, Bool.or_eq_true, Bool.and_eq_false_iff, Bool.or_eq_false_iff]
          exact ⟨⟨k1⟩, ⟨k2⟩⟩
        · exact hs.elim
      · exact hs.elim
    · exact hs.elim
def growOk (a b c d wd : Int) : Bool := properB a b c d && decide (0 ≤ wd)
def spGrowP : Spec := fun args _ _ => match args with
  | [.agg [.i .i64 a, .i .i64 b, .i .i64 c, .i .i64 d], .one (.i .i64 wd)] => gives True (.tup [.agg [.i .i64 (.sy fun _ => bif growOk a.val b.val c.val d.val wd.val then max (a.val - min wd.val 2097152) (-1048576) else 0), .i .i64 (.sy fun _ => bif growOk a.val b.val c.val d.val wd.val then min (b.val + min wd.val 2097152) 1048576 else 0), .i .i64 (.sy fun _ => bif growOk a.val b.val c.val d.val wd.val then max (c.val - min wd.val 2097152) (-1048576) else 0), .i .i64 (.sy fun _ => bif growOk a.val b.val c.val d.val wd.val then min (d.val + min wd.val 2097152) 1048576 else 0)], .one (.b (.sy fun _ => growOk a.val b.val c.val d.val wd.val))])
  | _ => bad
theorem okGrowP : SpecOk F0 Tryz.prog 164 spGrowP := by
  refine spec_pure (e := en [(51, spProper), (195, spGrown)]) (en_ok ⟨okProper, okGrown, trivial⟩) rfl (fn := Tryz.f164) (c := fbody Tryz.f164) (by kernel_rfl) rfl rfl (by kernel_rfl) (fun _ _ _ _ => rfl) fun args M base hs => ?_
  unfold spGrowP at hs ⊢
  split at hs
  · refine ⟨Nat.le_of_ble_eq_true rfl, rfl, rfl, rfl, rfl, fun B => ?_⟩
    rename_i a b c d wd
    cbv
    simp only [implies_true, and_true, true_and, IX.v_lit, IX.v_nat, IX.v_sy, BX.v_lit, BX.v_sy, NX.v_lit, NX.v_sy, addN, in_true, eq_self, Nat.succ_eq_add_one, intD_eq, encInt_le, encText_le, encSpan_le, encPair_le, encBox_le, encNote_le, encSight_le, cell_i_le, Nat.add_zero, Int.toNat_natCast, Nat.lt_irrefl, if_false, and_self, ncast, imp_self, in_self, in_self2, in_and, Int.cast_ofNat_Int, in_and2, ltB_t, ltB_f, leB_t, leB_f, eqB_t, eqB_f, ltNB_t, ltNB_f, leNB_t, leNB_f, eqNB_t, eqNB_f, noT, noF, Bool.and_eq_true, Bool.or_eq_true, Bool.and_eq_false_iff, Bool.or_eq_false_iff]
    refine ⟨fun h => ?_, fun h => ?_⟩
    · have hb : growOk a.val b.val c.val d.val wd.val = false := by
        unfold growOk
        rcases h with h | h
        · rw [h]; rfl
        · rw [decide_eq_false (by omega), Bool.and_false]
      cbv
      simp only [implies_true, and_true, true_and, IX.v_lit, IX.v_nat, IX.v_sy, BX.v_lit, BX.v_sy, NX.v_lit, NX.v_sy, addN, in_true, eq_self, Nat.succ_eq_add_one, intD_eq, encInt_le, encText_le, encSpan_le, encPair_le, encBox_le, encNote_le, encSight_le, cell_i_le, Nat.add_zero, Int.toNat_natCast, Nat.lt_irrefl, if_false, and_self, ncast, imp_self, in_self, in_self2, in_and, Int.cast_ofNat_Int, in_and2, ltB_t, ltB_f, leB_t, leB_f, eqB_t, eqB_f, ltNB_t, ltNB_f, leNB_t, leNB_f, eqNB_t, eqNB_f, noT, noF, Bool.and_eq_true, Bool.or_eq_true, Bool.and_eq_false_iff, Bool.or_eq_false_iff]
      simp only [hb]
      exact ⟨⟨⟨rfl⟩, ⟨rfl⟩, ⟨rfl⟩, ⟨rfl⟩⟩, ⟨trivial⟩⟩
    · have hb : growOk a.val b.val c.val d.val wd.val = true := by
        unfold growOk
        rw [h.1, decide_eq_true h.2]
        rfl
      have hw := h.2
      have hp := h.1
      unfold properB spanB inB at hp
      simp only [Bool.and_eq_true, decide_eq_true_eq] at hp
      cbv
      simp only [implies_true, and_true, true_and, IX.v_lit, IX.v_nat, IX.v_sy, BX.v_lit, BX.v_sy, NX.v_lit, NX.v_sy, addN, in_true, eq_self, Nat.succ_eq_add_one, intD_eq, encInt_le, encText_le, encSpan_le, encPair_le, encBox_le, encNote_le, encSight_le, cell_i_le, Nat.add_zero, Int.toNat_natCast, Nat.lt_irrefl, if_false, and_self, ncast, imp_self, in_self, in_self2, in_and, Int.cast_ofNat_Int, in_and2, ltB_t, ltB_f, leB_t, leB_f, eqB_t, eqB_f, ltNB_t, ltNB_f, leNB_t, leNB_f, eqNB_t, eqNB_f, noT, noF, Bool.and_eq_true, Bool.or_eq_true, Bool.and_eq_false_iff, Bool.or_eq_false_iff]
      simp only [hb]
      exact ⟨⟨by unfold fitsK; omega, by unfold fitsK; omega⟩, ⟨by unfold fitsK; omega, by unfold fitsK; omega⟩, ⟨by kernel_rfl⟩, ⟨⟨rfl⟩, ⟨rfl⟩, ⟨rfl⟩, ⟨rfl⟩⟩, ⟨trivial⟩⟩
  · exact hs.elim
def meetOk (a b c d a' b' c' d' : Int) : Bool := (properB a b c d && properB a' b' c' d') && properB (max a a') (min b b') (max c c') (min d d')
def spMeetP : Spec := fun args _ _ => match args with
  | [.agg [.i .i64 a, .i .i64 b, .i .i64 c, .i .i64 d], .agg [.i .i64 a', .i .i64 b', .i .i64 c', .i .i64 d']] => gives True (.tup [.agg [.i .i64 (.sy fun _ => bif meetOk a.val b.val c.val d.val a'.val b'.val c'.val d'.val then max a.val a'.val else 0), .i .i64 (.sy fun _ => bif meetOk a.val b.val c.val d.val a'.val b'.val c'.val d'.val then min b.val b'.val else 0), .i .i64 (.sy fun _ => bif meetOk a.val b.val c.val d.val a'.val b'.val c'.val d'.val then max c.val c'.val else 0), .i .i64 (.sy fun _ => bif meetOk a.val b.val c.val d.val a'.val b'.val c'.val d'.val then min d.val d'.val else 0)], .one (.b (.sy fun _ => meetOk a.val b.val c.val d.val a'.val b'.val c'.val d'.val))])
  | _ => bad
theorem okMeetP : SpecOk F0 Tryz.prog 165 spMeetP := by
  refine spec_pure (e := en [(51, spProper), (196, spBoth)]) (en_ok ⟨okProper, okMeet, trivial⟩) rfl (fn := Tryz.f165) (c := fbody Tryz.f165) (by kernel_rfl) rfl rfl (by kernel_rfl) (fun _ _ _ _ => rfl) fun args M base hs => ?_
  unfold spMeetP at hs ⊢
  split at hs
  · refine ⟨Nat.le_of_ble_eq_true rfl, rfl, rfl, rfl, rfl, fun B => ?_⟩
    rename_i a b c d a' b' c' d'
    cbv
    simp only [implies_true, and_true, true_and, IX.v_lit, IX.v_nat, IX.v_sy, BX.v_lit, BX.v_sy, NX.v_lit, NX.v_sy, addN, in_true, eq_self, Nat.succ_eq_add_one, intD_eq, encInt_le, encText_le, encSpan_le, encPair_le, encBox_le, encNote_le, encSight_le, cell_i_le, Nat.add_zero, Int.toNat_natCast, Nat.lt_irrefl, if_false, and_self, ncast, imp_self, in_self, in_self2, in_and, Int.cast_ofNat_Int, in_and2, ltB_t, ltB_f, leB_t, leB_f, eqB_t, eqB_f, ltNB_t, ltNB_f, leNB_t, leNB_f, eqNB_t, eqNB_f, noT, noF, Bool.and_eq_true, Bool.or_eq_true, Bool.and_eq_false_iff, Bool.or_eq_false_iff]
    refine ⟨⟨by kernel_rfl⟩, fun h => ?_, fun h => ?_⟩
    · have hb : meetOk a.val b.val c.val d.val a'.val b'.val c'.val d'.val = false := by
        unfold meetOk
        rcases h with (h | h) | h <;> simp [h]
      cbv
      simp only [implies_true, and_true, true_and, IX.v_lit, IX.v_nat, IX.v_sy, BX.v_lit, BX.v_sy, NX.v_lit, NX.v_sy, addN, in_true, eq_self, Nat.succ_eq_add_one, intD_eq, encInt_le, encText_le, encSpan_le, encPair_le, encBox_le, encNote_le, encSight_le, cell_i_le, Nat.add_zero, Int.toNat_natCast, Nat.lt_irrefl, if_false, and_self, ncast, imp_self, in_self, in_self2, in_and, Int.cast_ofNat_Int, in_and2, ltB_t, ltB_f, leB_t, leB_f, eqB_t, eqB_f, ltNB_t, ltNB_f, leNB_t, leNB_f, eqNB_t, eqNB_f, noT, noF, Bool.and_eq_true, Bool.or_eq_true, Bool.and_eq_false_iff, Bool.or_eq_false_iff]
      simp only [hb]
      exact ⟨⟨⟨rfl⟩, ⟨rfl⟩, ⟨rfl⟩, ⟨rfl⟩⟩, ⟨trivial⟩⟩
    · have hb : meetOk a.val b.val c.val d.val a'.val b'.val c'.val d'.val = true := by
        unfold meetOk
        simp [h]
      cbv
      simp only [implies_true, and_true, true_and, IX.v_lit, IX.v_nat, IX.v_sy, BX.v_lit, BX.v_sy, NX.v_lit, NX.v_sy, addN, in_true, eq_self, Nat.succ_eq_add_one, intD_eq, encInt_le, encText_le, encSpan_le, encPair_le, encBox_le, encNote_le, encSight_le, cell_i_le, Nat.add_zero, Int.toNat_natCast, Nat.lt_irrefl, if_false, and_self, ncast, imp_self, in_self, in_self2, in_and, Int.cast_ofNat_Int, in_and2, ltB_t, ltB_f, leB_t, leB_f, eqB_t, eqB_f, ltNB_t, ltNB_f, leNB_t, leNB_f, eqNB_t, eqNB_f, noT, noF, Bool.and_eq_true, Bool.or_eq_true, Bool.and_eq_false_iff, Bool.or_eq_false_iff]
      simp only [hb]
      exact ⟨⟨⟨rfl⟩, ⟨rfl⟩, ⟨rfl⟩, ⟨rfl⟩⟩, ⟨trivial⟩⟩
  · exact hs.elim
/-- Can two sights be of one stone? -/
def mayB (st : Int) (a b : SightD) : Bool := (!decide (a.year = b.year) && blendOk a.ls b.ls) && (bif growOk a.x0 a.x1 a.y0 a.y1 st then meetOk (max (a.x0 - min st 2097152) (-1048576)) (min (a.x1 + min st 2097152) 1048576) (max (a.y0 - min st 2097152) (-1048576)) (min (a.y1 + min st 2097152) 1048576) b.x0 b.x1 b.y0 b.y1 else meetOk 0 0 0 0 b.x0 b.x1 b.y0 b.y1)
def spMay : Spec := fun args _ _ => match args with
  | [.agg [.i .i64 st, .i .i64 pl, .i .i64 sk], .agg [.i .i64 id, .i .i64 y, .i .i64 x0, .i .i64 x1, .i .i64 y0, .i .i64 y1, .s s, .i .i64 lo, .i .i64 hi], .agg [.i .i64 id', .i .i64 y', .i .i64 x0', .i .i64 x1', .i .i64 y0', .i .i64 y1', .s s', .i .i64 lo', .i .i64 hi']] => gives True (cbool (.sy fun _ => mayB st.val ⟨id.val, y.val, x0.val, x1.val, y0.val, y1.val, s (), lo.val, hi.val⟩ ⟨id'.val, y'.val, x0'.val, x1'.val, y0'.val, y1'.val, s' (), lo'.val, hi'.val⟩))
  | _ => bad
theorem okMay : SpecOk F0 Tryz.prog 127 spMay := by
  refine spec_pure (e := en [(40, spAgree), (164, spGrowP), (165, spMeetP)]) (en_ok ⟨okAgree, okGrowP, okMeetP, trivial⟩) rfl (fn := Tryz.f127) (c := fbody Tryz.f127) (by kernel_rfl) rfl rfl (by kernel_rfl) (fun _ _ _ _ => rfl) fun args M base hs => ?_
  unfold spMay at hs ⊢
  split at hs
  · refine ⟨Nat.le_of_ble_eq_true rfl, rfl, rfl, rfl, rfl, fun B => ?_⟩
    rename_i st pl sk id y x0 x1 y0 y1 s lo hi id' y' x0' x1' y0' y1' s' lo' hi'
    obtain ⟨s, rfl⟩ : ∃ t, s = fun _ => t := ⟨s (), rfl⟩
    obtain ⟨s', rfl⟩ : ∃ t, s' = fun _ => t := ⟨s' (), rfl⟩
    cbv
    simp only [implies_true, and_true, true_and, IX.v_lit, IX.v_nat, IX.v_sy, BX.v_lit, BX.v_sy, NX.v_lit, NX.v_sy, addN, in_true, eq_self, Nat.succ_eq_add_one, intD_eq, encInt_le, encText_le, encSpan_le, encPair_le, encBox_le, encNote_le, encSight_le, cell_i_le, Nat.add_zero, Int.toNat_natCast, Nat.lt_irrefl, if_false, and_self, ncast, imp_self, in_self, in_self2, in_and, Int.cast_ofNat_Int, in_and2, ltB_t, ltB_f, leB_t, leB_f, eqB_t, eqB_f, ltNB_t, ltNB_f, leNB_t, leNB_f, eqNB_t, eqNB_f, noT, noF, Bool.and_eq_true, Bool.or_eq_true, Bool.and_eq_false_iff, Bool.or_eq_false_iff]
    refine ⟨?_⟩
    unfold mayB
    cases hg : growOk x0.val x1.val y0.val y1.val st.val <;> simp only [hg, cond_true, cond_false] <;> rfl
  · exact hs.elim
end Go.Proofs.YthgllnnlngihoaaGreat.Sx
end
section
set_option linter.unusedVariables false
set_option linter.unusedSimpArgs false
set_option maxRecDepth 100000
namespace Go.Proofs.YthgllnnlngihoaaGreat.Sx
open Go.RowKit Go.Sort

def renGrow : Go.Shelf.Ren := ⟨fun | 4 => 191 | n => n, fun | 22 => 24 | 25 => 64 | n => n, fun | n => n⟩
theorem laysGrow : Go.Proofs.Lays8.n4 Tryz.prog renGrow := {
  mixed := by kernel_rfl
  f4 := ⟨Tryz.f191.name, by decide, Tryz.func191.trans (congrArg some (by kernel_rfl))⟩
  t0 := Tryz.underlying0
  a0 := Tryz.isAgg0
  z0 := Tryz.sizeOf0
  v0 := Tryz.zeroValue0
  t3 := Tryz.underlying3
  a3 := Tryz.isAgg3
  z3 := Tryz.sizeOf3
  v3 := Tryz.zeroValue3
  t4 := Tryz.underlying4
  a4 := Tryz.isAgg4
  z4 := Tryz.sizeOf4
  v4 := Tryz.zeroValue4
  t9 := Tryz.underlying9
  a9 := Tryz.isAgg9
  z9 := Tryz.sizeOf9
  v9 := Tryz.zeroValue9
  t20 := Tryz.underlying20
  a20 := Tryz.isAgg20
  z20 := Tryz.sizeOf20
  v20 := Tryz.zeroValue20
  t22 := Tryz.underlying24
  a22 := Tryz.isAgg24
  z22 := Tryz.sizeOf24
  v22 := Tryz.zeroValue24 }
theorem enters191 : Enters Tryz.prog 191 := ⟨Tryz.f191, fbody Tryz.f191, by kernel_rfl, rfl, rfl⟩
def spGrow : Spec := fun args M base => match args with
  | [.one (.c (.slice none 0 0)), .one (.i .i64 n)] => ⟨In fun _ => 0 ≤ n.val ∧ n.val ≤ 1000, .one (.ref base), [sightsRowT fun _ => []], [], []⟩
  | _ => bad
theorem okGrow : SpecOk F0 Tryz.prog 191 spGrow := by
  refine ⟨fun args M M' base hs h => by unfold spGrow; rfl, enters191, fun n B O σ M w args vals base hS ha hs hnew hfree => ?_⟩
  unfold spGrow at hs hnew hfree ⊢
  split at hs
  · rename_i m
    obtain ⟨h0, h1⟩ := hs.ok
    match vals, ha with
    | [v, vm], ha =>
      have hv : v = .slice none 0 0 := ha.1.2
      have hm : vm = .int .i64 m.val := ha.2.1.2
      have hMb : M base = some (sightsRowT fun _ => []) := hnew 0 _ rfl
      have hσb : σ base = none := hfree 0 (by simp)
      obtain ⟨k, hk⟩ : ∃ k : Nat, m.val = (k : Int) := ⟨m.val.toNat, by omega⟩
      rw [hv, hm, hk]
      refine callsIn_wide.2 ?_
      rcases Nat.eq_zero_or_pos k with hz | hz
      · subst hz
        refine (Any8.slices_Grow_room laysGrow none 0 0 0 w (Nat.le_refl _) (by omega) (by omega) (Nat.le_refl _)).mono fun e w' h => ?_
        obtain ⟨rfl, rfl⟩ := h
        exact ⟨_, StepOk.make hS (Below.refl _ _) rfl hMb hσb ⟨by decide, .inl ⟨rfl, rfl⟩⟩ fun _ b hb => by simp [blkOf, addrOf] at hb⟩
      · cases hi : Tryz.prog.info? 64 with
        | none => exact absurd (show (Tryz.prog.info? 64).isSome = true by kernel_rfl) (by rw [hi]; decide)
        | some i0 =>
          have hi2 : (Tryz.prog.info? 64).map (fun i => (i.zero.map (fun z => z.cells.size), i.size, i.bytes)) = some (some 9, 9, 80) := by kernel_rfl
          rw [hi] at hi2
          simp only [Option.map_some, Option.some.injEq, Prod.mk.injEq] at hi2
          obtain ⟨h2, h3, h4⟩ := hi2
          cases hzv : i0.zero with
          | none => rw [hzv] at h2; cases h2
          | some zv =>
            rw [hzv] at h2
            simp only [Option.map_some, Option.some.injEq] at h2
            have hkb : k ≤ 1000 := by omega
            refine (Any8.slices_Grow_grow laysGrow i0 zv hi hzv (by omega) none 0 0 k [] w (Nat.le_refl _) (by omega) (by rw [h4]; omega) (by omega) (by simp) (fun _ => rfl) (fun a ha => by cases ha)).mono fun e w' h => ?_
            obtain ⟨rfl, rfl⟩ := h
            have hge := grownCap_ge w (0 + k) 0 64
            have hle := grownCap_le_maxLen w (0 + k) 0 64 (by have : maxLen = 9223372036854775807 := rfl; omega)
            have hb : Below w.heap.size w (w.drew.alloc (.cells (([] : List Value).toArray ++ Builtin.zeroCells zv.cells (0 + k - 0) ++ Builtin.zeroCells zv.cells (grownCap w (0 + k) 0 64 - (0 + k))) 64)) := by
              have h5 : Below w.heap.size w w.drew := ⟨rfl, rfl, rfl, Nat.le_refl _, fun _ _ => rfl⟩
              exact h5.alloc (Nat.le_refl _) _
            refine ⟨_, StepOk.make hS hb rfl hMb hσb ⟨by decide, .inr ⟨w.heap.size, grownCap w (0 + k) 0 64, _, rfl, World.alloc_heap_new w.drew _, Nat.zero_le _, hle, ?_, fun e he => absurd he (Nat.not_lt_zero e)⟩⟩ fun _ b hbk => ?_⟩
            · rw [Nat.zero_add] at hge
              simp [Builtin.zeroCells, h2]
              omega
            · simp [blkOf, addrOf] at hbk
              omega
  · exact hs.elim
noncomputable def pt158 : Pt := fun X args m base K => ptFn (en [(191, spGrow)]) Tryz.f158 (fbody Tryz.f158) X args m base K
theorem pt158_ok : PtOk F0 Tryz.prog (.func 158) pt158 := ptFn_ok (e := en [(191, spGrow)]) (en_ok ⟨okGrow, trivial⟩) rfl (f := 158) (fn := Tryz.f158) (c := fbody Tryz.f158) (by kernel_rfl) rfl rfl (by kernel_rfl)
noncomputable def pts158 : Fn → Option Pt := fun fn => match fn with
  | .func f => match Nat.beq f 158 with
    | true => some pt158
    | false => none
  | _ => none
theorem pts158_ok : ∀ fn p, pts158 fn = some p → PtOk F0 Tryz.prog fn p := by
  intro fn p h
  unfold pts158 at h
  split at h
  · split at h
    · rename_i hb
      have hb := Nat.eq_of_beq_eq_true hb
      subst hb
      cases h
      exact pt158_ok
    · cases h
  · cases h
def sightS (s : SightD) : Int := sightE s.id s.year s.x0 s.x1 s.y0 s.y1 s.ls s.lo s.hi
def firstE : List SightD → Int
  | [] => 0
  | s :: r => bif decide (sightS s = 0) then firstE r else sightS s
def manyL (xs ys : List SightD) : Bool := decide (40 < xs.length) || decide (40 < ys.length)
def listedE (st pl sk : Int) (xs ys : List SightD) : Int := bif usualB st pl sk then (bif manyL xs ys then 2 else firstE (xs ++ ys)) else 1
theorem firstE_at : ∀ {zs : List SightD} {i : Nat}, i < zs.length → sightS (zs.getD i sightD) ≠ 0 → (∀ j, j < i → sightS (zs.getD j sightD) = 0) → firstE zs = sightS (zs.getD i sightD)
  | [], i, h, _, _ => by simp at h
  | s :: r, 0, _, hb, _ => by
    have hb : sightS s ≠ 0 := hb
    unfold firstE
    rw [decide_eq_false hb]
    rfl
  | s :: r, i + 1, h, hb, hl => by
    have h0 : sightS s = 0 := hl 0 (by omega)
    unfold firstE
    rw [decide_eq_true h0]
    exact firstE_at (by simpa using h) hb fun j hj => hl (j + 1) (by omega)
theorem firstE_all : ∀ {zs : List SightD}, (∀ j, j < zs.length → sightS (zs.getD j sightD) = 0) → firstE zs = 0
  | [], _ => rfl
  | s :: r, hl => by
    have h0 : sightS s = 0 := hl 0 (by simp)
    unfold firstE
    rw [decide_eq_true h0]
    exact firstE_all fun j hj => hl (j + 1) (by simpa using hj)
theorem app_le {τ : Nat → Option Src} {e j : Nat} {x y z : List CV} (h1 : e < j → All2 (CvLe τ) x z) (h2 : ¬ e < j → All2 (CvLe τ) y z) : All2 (CvLe τ) (if e < j then x else y) z := by
  by_cases h : e < j
  · rw [if_pos h]; exact h1 h
  · rw [if_neg h]; exact h2 h
theorem rowRef_le {τ : Nat → Option Src} {a b : Nat} (ha : τ a = some (.old a)) (hb : τ b = some (.old b)) {e : Nat} (he : e < 2) : All2 (CvLe τ) (chunk 1 [CV.ref a, CV.ref b] e) (chunk 1 [CV.ref a, CV.ref b] e) := by
  match e, he with
  | 0, _ => exact ⟨ha, trivial⟩
  | 1, _ => exact ⟨hb, trivial⟩
inductive T3 where
  | z
  | o
  | t
theorem listed_vc {st pl sk : Int} {xs ys : List SightD} (hx : xs.length ≤ 140737488355328) (hy : ys.length ≤ 140737488355328) (B : Nat) :
    vc (enP [(42, spSight), (80, spUsual)] (fun r => Nat.beq r 5) pts158) ⟨fun _ => none, B, fun _ => False, Tryz.f116.ntmps, none⟩ (fbody Tryz.f116) (start [.agg [.i .i64 (.sy fun _ => st), .i .i64 (.sy fun _ => pl), .i .i64 (.sy fun _ => sk)], .one (.ref 0), .one (.ref 1)] [sightRow .ro xs, sightRow .ro ys])
      fun x s => isRet x ∧ (resultI tab Tryz.f116.results.toList s.S.get (lget s.M)).1 ∧ IvLe (fun _ => none) (resultI tab Tryz.f116.results.toList s.S.get (lget s.M)).2 (cint .i64 (.sy fun _ => listedE st pl sk xs ys)) := by
  cbv
  simp only [implies_true, and_true, true_and, IX.v_lit, IX.v_nat, IX.v_sy, BX.v_lit, BX.v_sy, NX.v_lit, NX.v_sy, addN, in_true, eq_self, Nat.succ_eq_add_one, intD_eq, encInt_le, encText_le, encSpan_le, encPair_le, encBox_le, encNote_le, encSight_le, cell_i_le, Nat.add_zero, Int.toNat_natCast, Nat.lt_irrefl, if_false, and_self, ncast, imp_self, in_self, in_self2, in_and, Int.cast_ofNat_Int, in_and2, ltB_t, ltB_f, leB_t, leB_f, eqB_t, eqB_f, ltNB_t, ltNB_f, leNB_t, leNB_f, eqNB_t, eqNB_f, noT, noF, Bool.and_eq_true, Bool.or_eq_true, Bool.and_eq_false_iff, Bool.or_eq_false_iff]
  refine ⟨fun h => ?_, fun h => ?_⟩
  · cbv
    simp only [implies_true, and_true, true_and, IX.v_lit, IX.v_nat, IX.v_sy, BX.v_lit, BX.v_sy, NX.v_lit, NX.v_sy, addN, in_true, eq_self, Nat.succ_eq_add_one, intD_eq, encInt_le, encText_le, encSpan_le, encPair_le, encBox_le, encNote_le, encSight_le, cell_i_le, Nat.add_zero, Int.toNat_natCast, Nat.lt_irrefl, if_false, and_self, ncast, imp_self, in_self, in_self2, in_and, Int.cast_ofNat_Int, in_and2, ltB_t, ltB_f, leB_t, leB_f, eqB_t, eqB_f, ltNB_t, ltNB_f, leNB_t, leNB_f, eqNB_t, eqNB_f, noT, noF, Bool.and_eq_true, Bool.or_eq_true, Bool.and_eq_false_iff, Bool.or_eq_false_iff]
    exact ⟨by unfold listedE; rw [h]; rfl⟩
  · cbv
    simp only [implies_true, and_true, true_and, IX.v_lit, IX.v_nat, IX.v_sy, BX.v_lit, BX.v_sy, NX.v_lit, NX.v_sy, addN, in_true, eq_self, Nat.succ_eq_add_one, intD_eq, encInt_le, encText_le, encSpan_le, encPair_le, encBox_le, encNote_le, encSight_le, cell_i_le, Nat.add_zero, Int.toNat_natCast, Nat.lt_irrefl, if_false, and_self, ncast, imp_self, in_self, in_self2, in_and, Int.cast_ofNat_Int, in_and2, ltB_t, ltB_f, leB_t, leB_f, eqB_t, eqB_f, ltNB_t, ltNB_f, leNB_t, leNB_f, eqNB_t, eqNB_f, noT, noF, Bool.and_eq_true, Bool.or_eq_true, Bool.and_eq_false_iff, Bool.or_eq_false_iff]
    refine ⟨fun h1 => ?_, fun h1 => ?_⟩
    · cbv
      simp only [implies_true, and_true, true_and, IX.v_lit, IX.v_nat, IX.v_sy, BX.v_lit, BX.v_sy, NX.v_lit, NX.v_sy, addN, in_true, eq_self, Nat.succ_eq_add_one, intD_eq, encInt_le, encText_le, encSpan_le, encPair_le, encBox_le, encNote_le, encSight_le, cell_i_le, Nat.add_zero, Int.toNat_natCast, Nat.lt_irrefl, if_false, and_self, ncast, imp_self, in_self, in_self2, in_and, Int.cast_ofNat_Int, in_and2, ltB_t, ltB_f, leB_t, leB_f, eqB_t, eqB_f, ltNB_t, ltNB_f, leNB_t, leNB_f, eqNB_t, eqNB_f, noT, noF, Bool.and_eq_true, Bool.or_eq_true, Bool.and_eq_false_iff, Bool.or_eq_false_iff]
      exact ⟨by
        unfold listedE manyL
        rw [h]
        rcases h1 with h1 | h1
        · rw [decide_eq_true (by (first | omega | (simp only [ncast] at *; omega)))]; rfl
        · rw [decide_eq_true (by (first | omega | (simp only [ncast] at *; omega)) : 40 < ys.length), Bool.or_true]; rfl⟩
    · have hm : manyL xs ys = false := by
        unfold manyL
        rw [decide_eq_false (by (first | omega | (simp only [ncast] at *; omega))), decide_eq_false (by (first | omega | (simp only [ncast] at *; omega)))]
        rfl
      have hx4 : xs.length ≤ 40 := by (first | omega | (simp only [ncast] at *; omega))
      have hy4 : ys.length ≤ 40 := by (first | omega | (simp only [ncast] at *; omega))
      obtain ⟨zs, hzs⟩ : ∃ zs, xs ++ ys = zs := ⟨_, rfl⟩
      have hzl : zs.length = xs.length + ys.length := by rw [← hzs, List.length_append]
      cbv
      refine ⟨[], fun π hπa hπb => ?_⟩
      have hp : ∀ i u, π i = some u → i ∈ ([] : List Nat) := fun i u hu => by
        rcases hπa i u hu with h2 | ⟨v, h2⟩
        · cases h2
        · cases h2
      unfold pt158 ptFn
      refine ⟨Nat.le_of_ble_eq_true rfl, ?_⟩
      cbv
      refine ⟨T3, T3.rec ⟨[(0, .lit true, .one (.ref 3)), (3, .lit true, cint .i64 (.lit 0)), (9, .lit true, .one (.ref 3)), (10, .lit true, cint .i64 (.lit 2)), (11, .lit true, cint .i64 (.lit 0))], [(0, sightRow .ro xs), (1, sightRow .ro ys), (3, .row .own 24 1 (.lit 2) (chunk 1 [.ref 0, .ref 1]))], 4⟩ ⟨[(0, .lit true, .one (.ref 3)), (3, .lit true, cint .i64 (.nat (fun _ => xs.length) 0)), (9, .lit true, .one (.ref 3)), (10, .lit true, cint .i64 (.lit 2)), (11, .lit true, cint .i64 (.lit 1))], [(0, sightRow .ro xs), (1, sightRow .ro ys), (3, .row .own 24 1 (.lit 2) (chunk 1 [.ref 0, .ref 1]))], 4⟩ ⟨[(0, .lit true, .one (.ref 3)), (3, .lit true, cint .i64 (.nat (fun _ => xs.length + ys.length) 0)), (9, .lit true, .one (.ref 3)), (10, .lit true, cint .i64 (.lit 2)), (11, .lit true, cint .i64 (.lit 2))], [(0, sightRow .ro xs), (1, sightRow .ro ys), (3, .row .own 24 1 (.lit 2) (chunk 1 [.ref 0, .ref 1]))], 4⟩, T3.rec 2 1 0, T3.z, LeBy.le (pins := []) hp (l := [(0, .old 0), (1, .old 1), (3, .old 3)]) ?_, fun i => ?_⟩
      · cbv
        simp only [implies_true, and_true, true_and, IX.v_lit, IX.v_nat, IX.v_sy, BX.v_lit, BX.v_sy, NX.v_lit, NX.v_sy, addN, in_true, eq_self, Nat.succ_eq_add_one, intD_eq, encInt_le, encText_le, encSpan_le, encPair_le, encBox_le, encNote_le, encSight_le, cell_i_le, Nat.add_zero, Int.toNat_natCast, Nat.lt_irrefl, if_false, and_self, ncast, imp_self, in_self, in_self2, in_and, Int.cast_ofNat_Int, in_and2, ltB_t, ltB_f, leB_t, leB_f, eqB_t, eqB_f, ltNB_t, ltNB_f, leNB_t, leNB_f, eqNB_t, eqNB_f, noT, noF, Bool.and_eq_true, Bool.or_eq_true, Bool.and_eq_false_iff, Bool.or_eq_false_iff]
        exact ⟨fun e he => rowRef_le rfl rfl he⟩
      · cases i with
        | z =>
          cbv
          refine ⟨⟨by unfold fitsK; show _ ≤ 0 + ((xs.length : Nat) : Int) ∧ 0 + ((xs.length : Nat) : Int) ≤ _; omega⟩, fun hneg => ?_, fun _ => ?_⟩
          · have hneg : 0 + ((xs.length : Nat) : Int) < 0 := ltB_t.mp hneg
            omega
          · cbv
            simp only [implies_true, and_true, true_and, IX.v_lit, IX.v_nat, IX.v_sy, BX.v_lit, BX.v_sy, NX.v_lit, NX.v_sy, addN, in_true, eq_self, Nat.succ_eq_add_one, intD_eq, encInt_le, encText_le, encSpan_le, encPair_le, encBox_le, encNote_le, encSight_le, cell_i_le, Nat.add_zero, Int.toNat_natCast, Nat.lt_irrefl, if_false, and_self, ncast, imp_self, in_self, in_self2, in_and, Int.cast_ofNat_Int, in_and2, ltB_t, ltB_f, leB_t, leB_f, eqB_t, eqB_f, ltNB_t, ltNB_f, leNB_t, leNB_f, eqNB_t, eqNB_f, noT, noF, Bool.and_eq_true, Bool.or_eq_true, Bool.and_eq_false_iff, Bool.or_eq_false_iff]
            refine ⟨⟨by unfold fitsK; omega⟩, T3.o, LeBy.le (pins := []) hp (l := [(0, .old 0), (1, .old 1), (3, .old 3)]) ?_, by decide⟩
            cbv
            simp only [implies_true, and_true, true_and, IX.v_lit, IX.v_nat, IX.v_sy, BX.v_lit, BX.v_sy, NX.v_lit, NX.v_sy, addN, in_true, eq_self, Nat.succ_eq_add_one, intD_eq, encInt_le, encText_le, encSpan_le, encPair_le, encBox_le, encNote_le, encSight_le, cell_i_le, Nat.add_zero, Int.toNat_natCast, Nat.lt_irrefl, if_false, and_self, ncast, imp_self, in_self, in_self2, in_and, Int.cast_ofNat_Int, in_and2, ltB_t, ltB_f, leB_t, leB_f, eqB_t, eqB_f, ltNB_t, ltNB_f, leNB_t, leNB_f, eqNB_t, eqNB_f, noT, noF, Bool.and_eq_true, Bool.or_eq_true, Bool.and_eq_false_iff, Bool.or_eq_false_iff]
            exact ⟨⟨fun e he => rowRef_le rfl rfl he⟩, ⟨by omega⟩⟩
        | o =>
          cbv
          refine ⟨⟨by unfold fitsK; show _ ≤ ((xs.length : Nat) : Int) + ((ys.length : Nat) : Int) ∧ ((xs.length : Nat) : Int) + ((ys.length : Nat) : Int) ≤ _; omega⟩, fun hneg => ?_, fun _ => ?_⟩
          · have hneg : ((xs.length : Nat) : Int) + ((ys.length : Nat) : Int) < 0 := ltB_t.mp hneg
            omega
          · cbv
            simp only [implies_true, and_true, true_and, IX.v_lit, IX.v_nat, IX.v_sy, BX.v_lit, BX.v_sy, NX.v_lit, NX.v_sy, addN, in_true, eq_self, Nat.succ_eq_add_one, intD_eq, encInt_le, encText_le, encSpan_le, encPair_le, encBox_le, encNote_le, encSight_le, cell_i_le, Nat.add_zero, Int.toNat_natCast, Nat.lt_irrefl, if_false, and_self, ncast, imp_self, in_self, in_self2, in_and, Int.cast_ofNat_Int, in_and2, ltB_t, ltB_f, leB_t, leB_f, eqB_t, eqB_f, ltNB_t, ltNB_f, leNB_t, leNB_f, eqNB_t, eqNB_f, noT, noF, Bool.and_eq_true, Bool.or_eq_true, Bool.and_eq_false_iff, Bool.or_eq_false_iff]
            refine ⟨⟨by unfold fitsK; omega⟩, T3.t, LeBy.le (pins := []) hp (l := [(0, .old 0), (1, .old 1), (3, .old 3)]) ?_, by decide⟩
            cbv
            simp only [implies_true, and_true, true_and, IX.v_lit, IX.v_nat, IX.v_sy, BX.v_lit, BX.v_sy, NX.v_lit, NX.v_sy, addN, in_true, eq_self, Nat.succ_eq_add_one, intD_eq, encInt_le, encText_le, encSpan_le, encPair_le, encBox_le, encNote_le, encSight_le, cell_i_le, Nat.add_zero, Int.toNat_natCast, Nat.lt_irrefl, if_false, and_self, ncast, imp_self, in_self, in_self2, in_and, Int.cast_ofNat_Int, in_and2, ltB_t, ltB_f, leB_t, leB_f, eqB_t, eqB_f, ltNB_t, ltNB_f, leNB_t, leNB_f, eqNB_t, eqNB_f, noT, noF, Bool.and_eq_true, Bool.or_eq_true, Bool.and_eq_false_iff, Bool.or_eq_false_iff]
            exact ⟨⟨fun e he => rowRef_le rfl rfl he⟩, ⟨by omega⟩⟩
        | t =>
          cbv
          refine ⟨⟨by show (0 : Int) ≤ ((xs.length + ys.length : Nat) : Int) ∧ ((xs.length + ys.length : Nat) : Int) ≤ 1000; omega⟩, ?_⟩
          refine ⟨T3, T3.rec ⟨[(6, .lit true, .one (.ref 4)), (25, .lit true, .one (.ref 3)), (26, .lit true, cint .i64 (.lit 2)), (27, .lit true, cint .i64 (.lit 0))], [(0, sightRow .ro xs), (1, sightRow .ro ys), (3, .row .own 24 1 (.lit 2) (chunk 1 [.ref 0, .ref 1])), (4, sightsRowT fun _ => [])], 5⟩ ⟨[(6, .lit true, .one (.ref 4)), (25, .lit true, .one (.ref 3)), (26, .lit true, cint .i64 (.lit 2)), (27, .lit true, cint .i64 (.lit 1))], [(0, sightRow .ro xs), (1, sightRow .ro ys), (3, .row .own 24 1 (.lit 2) (chunk 1 [.ref 0, .ref 1])), (4, sightsRowT fun _ => xs)], 5⟩ ⟨[(6, .lit true, .one (.ref 4)), (25, .lit true, .one (.ref 3)), (26, .lit true, cint .i64 (.lit 2)), (27, .lit true, cint .i64 (.lit 2))], [(0, sightRow .ro xs), (1, sightRow .ro ys), (3, .row .own 24 1 (.lit 2) (chunk 1 [.ref 0, .ref 1])), (4, sightsRowT fun _ => zs)], 5⟩, T3.rec 2 1 0, T3.z, LeBy.le (pins := []) hp (l := [(0, .old 0), (1, .old 1), (3, .old 3), (4, .old 4)]) ?_, fun i => ?_⟩
          · cbv
            simp only [implies_true, and_true, true_and, IX.v_lit, IX.v_nat, IX.v_sy, BX.v_lit, BX.v_sy, NX.v_lit, NX.v_sy, addN, in_true, eq_self, Nat.succ_eq_add_one, intD_eq, encInt_le, encText_le, encSpan_le, encPair_le, encBox_le, encNote_le, encSight_le, cell_i_le, Nat.add_zero, Int.toNat_natCast, Nat.lt_irrefl, if_false, and_self, ncast, imp_self, in_self, in_self2, in_and, Int.cast_ofNat_Int, in_and2, ltB_t, ltB_f, leB_t, leB_f, eqB_t, eqB_f, ltNB_t, ltNB_f, leNB_t, leNB_f, eqNB_t, eqNB_f, noT, noF, Bool.and_eq_true, Bool.or_eq_true, Bool.and_eq_false_iff, Bool.or_eq_false_iff]
            exact ⟨fun e he => rowRef_le rfl rfl he⟩
          · cases i with
            | z =>
              cbv
              simp only [implies_true, and_true, true_and, IX.v_lit, IX.v_nat, IX.v_sy, BX.v_lit, BX.v_sy, NX.v_lit, NX.v_sy, addN, in_true, eq_self, Nat.succ_eq_add_one, intD_eq, encInt_le, encText_le, encSpan_le, encPair_le, encBox_le, encNote_le, encSight_le, cell_i_le, Nat.add_zero, Int.toNat_natCast, Nat.lt_irrefl, if_false, and_self, ncast, imp_self, in_self, in_self2, in_and, Int.cast_ofNat_Int, in_and2, ltB_t, ltB_f, leB_t, leB_f, eqB_t, eqB_f, ltNB_t, ltNB_f, leNB_t, leNB_f, eqNB_t, eqNB_f, noT, noF, Bool.and_eq_true, Bool.or_eq_true, Bool.and_eq_false_iff, Bool.or_eq_false_iff]
              refine ⟨⟨by show 0 + xs.length ≤ _; omega, by show (0 + xs.length) * 80 ≤ _; omega⟩, ⟨by unfold fitsK; omega⟩, T3.o, LeBy.le (pins := []) hp (l := [(0, .old 0), (1, .old 1), (3, .old 3), (4, .old 5)]) ?_, by decide⟩
              cbv
              simp only [implies_true, and_true, true_and, IX.v_lit, IX.v_nat, IX.v_sy, BX.v_lit, BX.v_sy, NX.v_lit, NX.v_sy, addN, in_true, eq_self, Nat.succ_eq_add_one, intD_eq, encInt_le, encText_le, encSpan_le, encPair_le, encBox_le, encNote_le, encSight_le, cell_i_le, Nat.add_zero, Int.toNat_natCast, Nat.lt_irrefl, if_false, and_self, ncast, imp_self, in_self, in_self2, in_and, Int.cast_ofNat_Int, in_and2, ltB_t, ltB_f, leB_t, leB_f, eqB_t, eqB_f, ltNB_t, ltNB_f, leNB_t, leNB_f, eqNB_t, eqNB_f, noT, noF, Bool.and_eq_true, Bool.or_eq_true, Bool.and_eq_false_iff, Bool.or_eq_false_iff]
              refine ⟨⟨fun e he => rowRef_le rfl rfl he⟩, ⟨by show xs.length = 0 + xs.length; omega⟩, ⟨fun e he => app_le (fun h3 => absurd h3 (Nat.not_lt_zero e)) fun h3 => ?_⟩⟩
              rw [show (fun x : PUnit => xs.getD (e - ([] : List SightD).length) sightD) = fun _ => xs.getD e sightD from funext fun _ => by rw [show e - ([] : List SightD).length = e from Nat.sub_zero e]]
              exact closedL_le rfl
            | o =>
              cbv
              simp only [implies_true, and_true, true_and, IX.v_lit, IX.v_nat, IX.v_sy, BX.v_lit, BX.v_sy, NX.v_lit, NX.v_sy, addN, in_true, eq_self, Nat.succ_eq_add_one, intD_eq, encInt_le, encText_le, encSpan_le, encPair_le, encBox_le, encNote_le, encSight_le, cell_i_le, Nat.add_zero, Int.toNat_natCast, Nat.lt_irrefl, if_false, and_self, ncast, imp_self, in_self, in_self2, in_and, Int.cast_ofNat_Int, in_and2, ltB_t, ltB_f, leB_t, leB_f, eqB_t, eqB_f, ltNB_t, ltNB_f, leNB_t, leNB_f, eqNB_t, eqNB_f, noT, noF, Bool.and_eq_true, Bool.or_eq_true, Bool.and_eq_false_iff, Bool.or_eq_false_iff]
              refine ⟨⟨by omega, by omega⟩, ⟨by unfold fitsK; omega⟩, T3.t, LeBy.le (pins := []) hp (l := [(0, .old 0), (1, .old 1), (3, .old 3), (4, .old 5)]) ?_, by decide⟩
              cbv
              simp only [implies_true, and_true, true_and, IX.v_lit, IX.v_nat, IX.v_sy, BX.v_lit, BX.v_sy, NX.v_lit, NX.v_sy, addN, in_true, eq_self, Nat.succ_eq_add_one, intD_eq, encInt_le, encText_le, encSpan_le, encPair_le, encBox_le, encNote_le, encSight_le, cell_i_le, Nat.add_zero, Int.toNat_natCast, Nat.lt_irrefl, if_false, and_self, ncast, imp_self, in_self, in_self2, in_and, Int.cast_ofNat_Int, in_and2, ltB_t, ltB_f, leB_t, leB_f, eqB_t, eqB_f, ltNB_t, ltNB_f, leNB_t, leNB_f, eqNB_t, eqNB_f, noT, noF, Bool.and_eq_true, Bool.or_eq_true, Bool.and_eq_false_iff, Bool.or_eq_false_iff]
              refine ⟨⟨fun e he => rowRef_le rfl rfl he⟩, ⟨hzl⟩, ⟨fun e he => app_le (fun h3 => ?_) fun h3 => ?_⟩⟩
              · rw [show (fun x : PUnit => zs.getD e sightD) = fun _ => xs.getD e sightD from funext fun _ => by rw [← hzs, List.getD_eq_getElem?_getD, List.getElem?_append_left h3, ← List.getD_eq_getElem?_getD]]
                exact closedL_le rfl
              · rw [show (fun x : PUnit => zs.getD e sightD) = fun _ => ys.getD (e - xs.length) sightD from funext fun _ => by rw [← hzs, List.getD_eq_getElem?_getD, List.getElem?_append_right (Nat.le_of_not_lt h3), ← List.getD_eq_getElem?_getD]]
                exact closedL_le rfl
            | t =>
              cbv
              refine ⟨(fun i hi => by cases hi), ?_⟩
              refine ⟨{i : Nat // i ≤ zs.length ∧ ∀ j, j < i → sightS (zs.getD j sightD) = 0}, fun i => ⟨[(6, .lit true, cint .i64 (.lit 0)), (26, .lit true, .one (.ref 4)), (27, .lit true, cint .i64 (.nat (fun _ => zs.length) 0)), (28, .lit true, cint .i64 (.nat (fun _ => i.1) 0))], [(4, sightsRowT fun _ => zs)], 5⟩, fun i => zs.length - i.1, ⟨0, Nat.zero_le _, fun j hj => absurd hj (Nat.not_lt_zero j)⟩, LeBy.le (pins := []) (fun i u h => by cases h) (l := [(4, .old 4)]) ?_, fun i => ?_⟩
              · cbv
                simp only [implies_true, and_true, true_and, IX.v_lit, IX.v_nat, IX.v_sy, BX.v_lit, BX.v_sy, NX.v_lit, NX.v_sy, addN, in_true, eq_self, Nat.succ_eq_add_one, intD_eq, encInt_le, encText_le, encSpan_le, encPair_le, encBox_le, encNote_le, encSight_le, cell_i_le, Nat.add_zero, Int.toNat_natCast, Nat.lt_irrefl, if_false, and_self, ncast, imp_self, in_self, in_self2, in_and, Int.cast_ofNat_Int, in_and2, ltB_t, ltB_f, leB_t, leB_f, eqB_t, eqB_f, ltNB_t, ltNB_f, leNB_t, leNB_f, eqNB_t, eqNB_f, noT, noF, Bool.and_eq_true, Bool.or_eq_true, Bool.and_eq_false_iff, Bool.or_eq_false_iff]
              · obtain ⟨i, hi, hl⟩ := i
                cbv
                simp only [implies_true, and_true, true_and, IX.v_lit, IX.v_nat, IX.v_sy, BX.v_lit, BX.v_sy, NX.v_lit, NX.v_sy, addN, in_true, eq_self, Nat.succ_eq_add_one, intD_eq, encInt_le, encText_le, encSpan_le, encPair_le, encBox_le, encNote_le, encSight_le, cell_i_le, Nat.add_zero, Int.toNat_natCast, Nat.lt_irrefl, if_false, and_self, ncast, imp_self, in_self, in_self2, in_and, Int.cast_ofNat_Int, in_and2, ltB_t, ltB_f, leB_t, leB_f, eqB_t, eqB_f, ltNB_t, ltNB_f, leNB_t, leNB_f, eqNB_t, eqNB_f, noT, noF, Bool.and_eq_true, Bool.or_eq_true, Bool.and_eq_false_iff, Bool.or_eq_false_iff]
                refine ⟨fun hlt => ?_, fun hlt => ?_⟩
                · cbv
                  simp only [implies_true, and_true, true_and, IX.v_lit, IX.v_nat, IX.v_sy, BX.v_lit, BX.v_sy, NX.v_lit, NX.v_sy, addN, in_true, eq_self, Nat.succ_eq_add_one, intD_eq, encInt_le, encText_le, encSpan_le, encPair_le, encBox_le, encNote_le, encSight_le, cell_i_le, Nat.add_zero, Int.toNat_natCast, Nat.lt_irrefl, if_false, and_self, ncast, imp_self, in_self, in_self2, in_and, Int.cast_ofNat_Int, in_and2, noT, noF]
                  refine ⟨⟨by omega⟩, ⟨by omega⟩, fun hb => ?_, fun hb => ?_⟩
                  · have hb : sightS (zs.getD i sightD) ≠ 0 := of_decide_eq_false hb
                    cbv
                    simp only [implies_true, and_true, true_and, IX.v_lit, IX.v_nat, IX.v_sy, BX.v_lit, BX.v_sy, NX.v_lit, NX.v_sy, addN, in_true, eq_self, Nat.succ_eq_add_one, intD_eq, encInt_le, encText_le, encSpan_le, encPair_le, encBox_le, encNote_le, encSight_le, cell_i_le, Nat.add_zero, Int.toNat_natCast, Nat.lt_irrefl, if_false, and_self, ncast, imp_self, in_self, in_self2, in_and, Int.cast_ofNat_Int, in_and2, ltB_t, ltB_f, leB_t, leB_f, eqB_t, eqB_f, ltNB_t, ltNB_f, leNB_t, leNB_f, eqNB_t, eqNB_f, noT, noF, Bool.and_eq_true, Bool.or_eq_true, Bool.and_eq_false_iff, Bool.or_eq_false_iff]
                    exact ⟨by unfold listedE; rw [h, hm, hzs]; exact firstE_at hlt hb hl⟩
                  · have hb : sightS (zs.getD i sightD) = 0 := of_decide_eq_true hb
                    cbv
                    simp only [implies_true, and_true, true_and, IX.v_lit, IX.v_nat, IX.v_sy, BX.v_lit, BX.v_sy, NX.v_lit, NX.v_sy, addN, in_true, eq_self, Nat.succ_eq_add_one, intD_eq, encInt_le, encText_le, encSpan_le, encPair_le, encBox_le, encNote_le, encSight_le, cell_i_le, Nat.add_zero, Int.toNat_natCast, Nat.lt_irrefl, if_false, and_self, ncast, imp_self, in_self, in_self2, in_and, Int.cast_ofNat_Int, in_and2, ltB_t, ltB_f, leB_t, leB_f, eqB_t, eqB_f, ltNB_t, ltNB_f, leNB_t, leNB_f, eqNB_t, eqNB_f, noT, noF, Bool.and_eq_true, Bool.or_eq_true, Bool.and_eq_false_iff, Bool.or_eq_false_iff]
                    refine ⟨⟨nat_fits hlt (by omega)⟩, ⟨i + 1, by omega, fun j hj => by rcases Nat.lt_succ_iff_lt_or_eq.1 hj with h3 | h3; exact hl j h3; rw [h3]; exact hb⟩, LeBy.le (pins := []) (fun i u h => by cases h) (l := [(4, .old 4)]) ?_, by show zs.length - (i + 1) < zs.length - i; omega⟩
                    cbv
                    simp only [implies_true, and_true, true_and, IX.v_lit, IX.v_nat, IX.v_sy, BX.v_lit, BX.v_sy, NX.v_lit, NX.v_sy, addN, in_true, eq_self, Nat.succ_eq_add_one, intD_eq, encInt_le, encText_le, encSpan_le, encPair_le, encBox_le, encNote_le, encSight_le, cell_i_le, Nat.add_zero, Int.toNat_natCast, Nat.lt_irrefl, if_false, and_self, ncast, imp_self, in_self, in_self2, in_and, Int.cast_ofNat_Int, in_and2, ltB_t, ltB_f, leB_t, leB_f, eqB_t, eqB_f, ltNB_t, ltNB_f, leNB_t, leNB_f, eqNB_t, eqNB_f, noT, noF, Bool.and_eq_true, Bool.or_eq_true, Bool.and_eq_false_iff, Bool.or_eq_false_iff]
                · cbv
                  simp only [implies_true, and_true, true_and, IX.v_lit, IX.v_nat, IX.v_sy, BX.v_lit, BX.v_sy, NX.v_lit, NX.v_sy, addN, in_true, eq_self, Nat.succ_eq_add_one, intD_eq, encInt_le, encText_le, encSpan_le, encPair_le, encBox_le, encNote_le, encSight_le, cell_i_le, Nat.add_zero, Int.toNat_natCast, Nat.lt_irrefl, if_false, and_self, ncast, imp_self, in_self, in_self2, in_and, Int.cast_ofNat_Int, in_and2, ltB_t, ltB_f, leB_t, leB_f, eqB_t, eqB_f, ltNB_t, ltNB_f, leNB_t, leNB_f, eqNB_t, eqNB_f, noT, noF, Bool.and_eq_true, Bool.or_eq_true, Bool.and_eq_false_iff, Bool.or_eq_false_iff]
                  exact ⟨by unfold listedE; rw [h, hm, hzs]; exact firstE_all fun j hj => hl j (by omega)⟩
def spListed : Spec := fun args M _ => match args with
  | [.agg [.i .i64 st, .i .i64 pl, .i .i64 sk], .one c, .one d] => ⟨In fun _ => (okSights M c ∧ okSights M d) ∧ (sights M c).length ≤ 140737488355328 ∧ (sights M d).length ≤ 140737488355328, cint .i64 (.sy fun _ => listedE st.val pl.val sk.val (sights M c) (sights M d)), [], [], (seen M c).reads ++ (seen M d).reads⟩
  | _ => bad
theorem okListed : SpecOk F0 Tryz.prog 116 spListed := by
  refine spec_val (e := enP [(42, spSight), (80, spUsual)] (fun r => Nat.beq r 5) pts158) (enP_ok (l := [(42, spSight), (80, spUsual)]) ⟨okSight, okUsual, trivial⟩ pts158_ok) rfl (fn := Tryz.f116) (c := fbody Tryz.f116) (by kernel_rfl) rfl rfl (by kernel_rfl) (fun args M M' base hs h => by
    unfold spListed at *
    split at hs
    · simp only [okSights, sights] at h ⊢
      rw [seen_congr (M := M) (M' := M') (fun i hi => h i (List.mem_append_left _ hi)), seen_congr (M := M) (M' := M') (fun i hi => h i (List.mem_append_right _ hi))]
    · exact hs.elim) fun args M base hs => ?_
  unfold spListed at hs ⊢
  split at hs
  · rename_i st pl sk c d
    exact ⟨[.agg [.i .i64 (.sy fun _ => st.val), .i .i64 (.sy fun _ => pl.val), .i .i64 (.sy fun _ => sk.val)], .one (.ref 0), .one (.ref 1)], [sightRow .ro (sights M c), sightRow .ro (sights M d)], Nat.le_of_ble_eq_true rfl, ⟨rfl, trivial⟩, .val rfl (.val rfl (.val rfl (.row (sight_from hs.ok.1.1) (.row (sight_from hs.ok.1.2) .nil)))), rfl, rfl, rfl, listed_vc hs.ok.2.1 hs.ok.2.2⟩
  · exact hs.elim
def mayE (st pl sk : Int) (a b : SightD) : Int := listedE st pl sk [a] [b]
def mayT (st pl sk : Int) (a b : SightD) : Bool := bif decide (listedE st pl sk [a] [b] = 0) then mayB st a b else false
theorem one_sight {M : Mem} {c : CV} {r : List Nat} {f0 f1 f2 f3 f4 f5 f7 f8 : Unit → Int} {f6 : Unit → ByteArray} (h : seen M c = ⟨True, .lit 1, 9, chunk 9 [.i .i64 (.sy f0), .i .i64 (.sy f1), .i .i64 (.sy f2), .i .i64 (.sy f3), .i .i64 (.sy f4), .i .i64 (.sy f5), .s f6, .i .i64 (.sy f7), .i .i64 (.sy f8)], r⟩) : okSights M c := by
  unfold okSights
  rw [h]
  refine ⟨trivial, fun _ => rfl, fun e he => ?_⟩
  have he : e < 1 := he
  obtain rfl : e = 0 := by omega
  exact closedL_le (l := [.i .i64 (.sy f0), .i .i64 (.sy f1), .i .i64 (.sy f2), .i .i64 (.sy f3), .i .i64 (.sy f4), .i .i64 (.sy f5), .s f6, .i .i64 (.sy f7), .i .i64 (.sy f8)]) rfl
theorem one_row {side : Prop} {k : Nat} {r : List Nat} {f0 f1 f2 f3 f4 f5 f7 f8 : Unit → Int} {f6 : Unit → ByteArray} : listOf sightCod ⟨side, .lit 1, k, chunk 9 [.i .i64 (.sy f0), .i .i64 (.sy f1), .i .i64 (.sy f2), .i .i64 (.sy f3), .i .i64 (.sy f4), .i .i64 (.sy f5), .s f6, .i .i64 (.sy f7), .i .i64 (.sy f8)], r⟩ = [⟨f0 (), f1 (), f2 (), f3 (), f4 (), f5 (), f6 (), f7 (), f8 ()⟩] := rfl
def spMay2 : Spec := fun args M _ => match args with
  | [.agg [.i .i64 st, .i .i64 pl, .i .i64 sk], .agg [.i .i64 id, .i .i64 y, .i .i64 x0, .i .i64 x1, .i .i64 y0, .i .i64 y1, .s s, .i .i64 lo, .i .i64 hi], .agg [.i .i64 id', .i .i64 y', .i .i64 x0', .i .i64 x1', .i .i64 y0', .i .i64 y1', .s s', .i .i64 lo', .i .i64 hi']] =>
    gives True (.tup [.one (.b (.sy fun _ => mayT st.val pl.val sk.val ⟨id.val, y.val, x0.val, x1.val, y0.val, y1.val, s (), lo.val, hi.val⟩ ⟨id'.val, y'.val, x0'.val, x1'.val, y0'.val, y1'.val, s' (), lo'.val, hi'.val⟩)), .one (.i .i64 (.sy fun _ => mayE st.val pl.val sk.val ⟨id.val, y.val, x0.val, x1.val, y0.val, y1.val, s (), lo.val, hi.val⟩ ⟨id'.val, y'.val, x0'.val, x1'.val, y0'.val, y1'.val, s' (), lo'.val, hi'.val⟩))])
  | _ => bad
theorem okMay2 : SpecOk F0 Tryz.prog 64 spMay2 := by
  refine spec_pure (e := en [(116, spListed), (127, spMay)]) (en_ok ⟨okListed, okMay, trivial⟩) rfl (fn := Tryz.f64) (c := fbody Tryz.f64) (by kernel_rfl) rfl rfl (by kernel_rfl) (fun _ _ _ _ => rfl) fun args M base hs => ?_
  unfold spMay2 at hs ⊢
  split at hs
  · refine ⟨Nat.le_of_ble_eq_true rfl, rfl, rfl, rfl, rfl, fun B => ?_⟩
    rename_i st pl sk id y x0 x1 y0 y1 s lo hi id' y' x0' x1' y0' y1' s' lo' hi'
    obtain ⟨s, rfl⟩ : ∃ t, s = fun _ => t := ⟨s (), rfl⟩
    obtain ⟨s', rfl⟩ : ∃ t, s' = fun _ => t := ⟨s' (), rfl⟩
    cbv
    simp only [implies_true, and_true, true_and, IX.v_lit, IX.v_nat, IX.v_sy, BX.v_lit, BX.v_sy, NX.v_lit, NX.v_sy, addN, in_true, eq_self, Nat.succ_eq_add_one, intD_eq, encInt_le, encText_le, encSpan_le, encPair_le, encBox_le, encNote_le, encSight_le, cell_i_le, Nat.add_zero, Int.toNat_natCast, Nat.lt_irrefl, if_false, and_self, ncast, imp_self, in_self, in_self2, in_and, Int.cast_ofNat_Int, in_and2, noT, noF]
    simp only [in_true, eq_self, and_true, true_and, ints, texts, spans, pairs, boxs, notes, sights, seen, lget, reduceIte, Nat.reduceEqDiff, reduceCtorEq, Nat.succ_ne_self, Nat.zero_ne_one, Nat.one_ne_zero, int_row0, int_row, text_row, span_row, pair_row, box_row, note_row, sight_row]
    simp only [one_row, List.length_cons, List.length_nil]
    refine ⟨⟨⟨one_sight rfl, one_sight rfl⟩, by omega, by omega⟩, fun h => ?_, fun h => ?_⟩
    · have h : decide (listedE st.val pl.val sk.val [⟨id.val, y.val, x0.val, x1.val, y0.val, y1.val, s, lo.val, hi.val⟩] [⟨id'.val, y'.val, x0'.val, x1'.val, y0'.val, y1'.val, s', lo'.val, hi'.val⟩] = 0) = false := h
      cbv
      simp only [implies_true, and_true, true_and, IX.v_lit, IX.v_nat, IX.v_sy, BX.v_lit, BX.v_sy, NX.v_lit, NX.v_sy, addN, in_true, eq_self, Nat.succ_eq_add_one, intD_eq, encInt_le, encText_le, encSpan_le, encPair_le, encBox_le, encNote_le, encSight_le, cell_i_le, Nat.add_zero, Int.toNat_natCast, Nat.lt_irrefl, if_false, and_self, ncast, imp_self, in_self, in_self2, in_and, Int.cast_ofNat_Int, in_and2, ltB_t, ltB_f, leB_t, leB_f, eqB_t, eqB_f, ltNB_t, ltNB_f, leNB_t, leNB_f, eqNB_t, eqNB_f, noT, noF, Bool.and_eq_true, Bool.or_eq_true, Bool.and_eq_false_iff, Bool.or_eq_false_iff]
      exact ⟨⟨by unfold mayT; rw [h]; rfl⟩, ⟨rfl⟩⟩
    · have h : decide (listedE st.val pl.val sk.val [⟨id.val, y.val, x0.val, x1.val, y0.val, y1.val, s, lo.val, hi.val⟩] [⟨id'.val, y'.val, x0'.val, x1'.val, y0'.val, y1'.val, s', lo'.val, hi'.val⟩] = 0) = true := h
      cbv
      simp only [implies_true, and_true, true_and, IX.v_lit, IX.v_nat, IX.v_sy, BX.v_lit, BX.v_sy, NX.v_lit, NX.v_sy, addN, in_true, eq_self, Nat.succ_eq_add_one, intD_eq, encInt_le, encText_le, encSpan_le, encPair_le, encBox_le, encNote_le, encSight_le, cell_i_le, Nat.add_zero, Int.toNat_natCast, Nat.lt_irrefl, if_false, and_self, ncast, imp_self, in_self, in_self2, in_and, Int.cast_ofNat_Int, in_and2, ltB_t, ltB_f, leB_t, leB_f, eqB_t, eqB_f, ltNB_t, ltNB_f, leNB_t, leNB_f, eqNB_t, eqNB_f, noT, noF, Bool.and_eq_true, Bool.or_eq_true, Bool.and_eq_false_iff, Bool.or_eq_false_iff]
      exact ⟨⟨by unfold mayT; rw [h]; rfl⟩, ⟨of_decide_eq_true h⟩⟩
  · exact hs.elim
end Go.Proofs.YthgllnnlngihoaaGreat.Sx
end
section
set_option linter.unusedVariables false
set_option linter.unusedSimpArgs false
set_option maxRecDepth 100000
namespace Go.Proofs.YthgllnnlngihoaaGreat.Sx
open Go.RowKit

theorem eqIn60 (d : Nat) (a b c e : Int) (w : World) : (Op.equalIn (d + 1 + 1) 60 (.agg #[.int .i64 a, .int .i64 b]) (.agg #[.int .i64 c, .int .i64 e])).run Tryz.prog w = .ok (a == c && b == e) w := by
  have u3 := Tryz.underlying3
  have a3 := Tryz.isAgg3
  have z3 := Tryz.sizeOf3
  have hS : Tryz.prog.underlying 60 = some (.struct (Tryz.prog.fieldsOf 60)) := by kernel_rfl
  have hp : Tryz.prog.stoodInHeld 60 = false := by kernel_rfl
  rw [run_equalIn_agg w (d + 1) 60 _ _ hS hp]
  simp only [Program.fieldsOf, Tryz.underlying60]
  go_simp
  by_cases h1 : a = c <;> by_cases h2 : b = e <;> simp [h1, h2]
theorem eqIn62 (a b c d a' b' c' d' : Int) (w : World) : (Op.equalIn 10000 62 (.agg #[.int .i64 a, .int .i64 b, .int .i64 c, .int .i64 d]) (.agg #[.int .i64 a', .int .i64 b', .int .i64 c', .int .i64 d'])).run Tryz.prog w = .ok ((a == a' && b == b') && (c == c' && d == d')) w := by
  have a60 := Tryz.isAgg60
  have z60 := Tryz.sizeOf60
  have hS : Tryz.prog.underlying 62 = some (.struct (Tryz.prog.fieldsOf 62)) := by kernel_rfl
  have hp : Tryz.prog.stoodInHeld 62 = false := by kernel_rfl
  rw [show (10000 : Nat) = 9999 + 1 from rfl, run_equalIn_agg w 9999 62 _ _ hS hp]
  simp only [Program.fieldsOf, Tryz.underlying62]
  have e1 := fun a b c e w => eqIn60 9997 a b c e w
  simp only [show 9997 + 1 + 1 = 9999 from rfl] at e1
  go_simp
  by_cases h1 : a = a' <;> by_cases h2 : b = b' <;> by_cases h3 : c = c' <;> by_cases h4 : d = d' <;> simp [h1, h2, h3, h4]
def eqT : EqTab := fun t => if t = 62 then some 4 else if t = 60 then some 2 else none
theorem eqT_ok : EqOk Tryz.prog eqT := by
  intro t n h xs ys x y w hx hy
  unfold eqT at h
  split at h
  · rename_i e
    subst e
    cases h
    match xs, ys, hx, hy with
    | [a, b, c, d], [a', b', c', d'], _, _ =>
      have hm : Tryz.prog.eqGuardType Tryz.prog.depth 62 = false := by kernel_rfl
      refine ⟨?_, ?_⟩
      · simp only [Sem.run_bind]
        rw [run_eqGuard_agg w _ 62 x y _ _ hm]
        simp only [Result.andThen_ok]
        rw [run_eql_struct]
        have := eqIn62 a b c d a' b' c' d' w
        simp only [List.map_cons, List.map_nil]
        rw [this]
        simp [Result.andThen, Bool.and_assoc]
      · simp only [Sem.run_bind]
        rw [run_eqGuard_agg w _ 62 x y _ _ hm]
        simp only [Result.andThen_ok]
        rw [run_neq_struct]
        have := eqIn62 a b c d a' b' c' d' w
        simp only [List.map_cons, List.map_nil]
        rw [this]
        simp [Result.andThen, Bool.and_assoc]
  · split at h
    · rename_i e
      subst e
      cases h
      match xs, ys, hx, hy with
      | [a, b], [a', b'], _, _ =>
        have hm : Tryz.prog.eqGuardType Tryz.prog.depth 60 = false := by kernel_rfl
        refine ⟨?_, ?_⟩
        · simp only [Sem.run_bind]
          rw [run_eqGuard_agg w _ 60 x y _ _ hm]
          simp only [Result.andThen_ok]
          rw [run_eql_struct]
          have := eqIn60 9998 a b a' b' w
          simp only [List.map_cons, List.map_nil]
          simp only [show 9998 + 1 + 1 = 10000 from rfl] at this
          rw [this]
          simp [Result.andThen]
        · simp only [Sem.run_bind]
          rw [run_eqGuard_agg w _ 60 x y _ _ hm]
          simp only [Result.andThen_ok]
          rw [run_neq_struct]
          have := eqIn60 9998 a b a' b' w
          simp only [List.map_cons, List.map_nil]
          simp only [show 9998 + 1 + 1 = 10000 from rfl] at this
          rw [this]
          simp [Result.andThen]
    · cases h
/-- .. with structs of integers that are compared. -/
noncomputable def enE (l : List (FuncId × Spec)) : En := ⟨fun _ => F0, fun _ => Tryz.prog, tab, eqT, gamL l, false, fun _ => false, fun _ => none⟩
theorem enE_ok {l : List (FuncId × Spec)} (h : AllSpecs l) : (enE l).Ok :=
  { fn := fun _ => trivial, depth := rfl, tab := tab_ok, eq := eqT_ok, gam := gamL_ok h, mixed := mixed_ok, pts := fun _ _ h => by cases h }
end Go.Proofs.YthgllnnlngihoaaGreat.Sx
end
section
set_option linter.unusedVariables false
set_option linter.unusedSimpArgs false
set_option maxRecDepth 100000
namespace Go.Proofs.YthgllnnlngihoaaGreat.Sx
open Go.RowKit Go.Sort

theorem sort_up {l : List Int} (h : l.Pairwise fun a b => decide (a ≤ b) = true) : sortI l = l := by
  unfold sortI
  exact List.mergeSort_of_pairwise h
def exNS : List NoteD := [⟨9, 0, 1700, 1710⟩]
theorem t_dup : dupB exSS [] = false := by
  unfold dupB
  rw [show idsL exSS [] = [1, 2, 3] by kernel_rfl, sort_up (by decide)]
  kernel_rfl
theorem t_dup2 : dupB exSS exNS = false := by
  unfold dupB
  rw [show idsL exSS exNS = [1, 2, 3, 9] by kernel_rfl, sort_up (by decide)]
  kernel_rfl
theorem t_dup3 : dupB (exSS.take 2) [] = false := by
  unfold dupB
  rw [show idsL (exSS.take 2) [] = [1, 2] by kernel_rfl, sort_up (by decide)]
  kernel_rfl
theorem t_check : checkE 10 3 1 exSS [] = 0 := by unfold checkE; rw [t_dup]; kernel_rfl
theorem t_check2 : checkE 10 3 1 exSS exNS = 0 := by unfold checkE; rw [t_dup2]; kernel_rfl
theorem t_check3 : checkE 10 3 1 (exSS.take 2) [] = 0 := by unfold checkE; rw [t_dup3]; kernel_rfl
theorem t_given (cs : List Int) (h : courseB 3 cs = true) : givenE 10 3 1 exSS [] cs = 0 := by
  unfold givenE
  rw [t_check, show exSS.length = 3 from rfl, h]
  rfl
theorem t_same : fitsB 10 3 1 exSS [] [0, 0] = false := by
  unfold fitsB
  rw [t_given _ (by kernel_rfl)]
  kernel_rfl
theorem t_moved : fitsB 10 3 1 exSS [] [1, 1] = true := by
  unfold fitsB
  rw [t_given _ (by kernel_rfl)]
  kernel_rfl
theorem t_tgE : tgE 10 3 1 exSS [] [2, 1] = 0 := by
  unfold tgE
  rw [t_given _ (by kernel_rfl)]
  kernel_rfl
theorem t_tgB : tgB 10 3 1 exSS [] [2, 1] = tellB 10 3 1 exSS [] [2, 1] := by
  unfold tgB
  rw [t_given _ (by kernel_rfl)]
  rfl
theorem t_at0 : (tgB 10 3 1 exSS [] [2, 1]).getD 0 boxD = ⟨4, 5, 0, 5⟩ := by rw [t_tgB]; kernel_rfl
theorem t_atL : (tgB 10 3 1 exSS [] [2, 1]).length = 3 := by rw [t_tgB]; kernel_rfl
theorem t_tgL : tgL 10 3 1 exSS [] [2, 1] = [⟨#[65, 46]⟩, ⟨#[65, 66]⟩, ⟨#[65, 66]⟩] := by
  unfold tgL
  rw [t_given _ (by kernel_rfl)]
  kernel_rfl
theorem t_kindsE : kindsE 10 3 1 exSS [] = 0 := by unfold kindsE; rw [t_check]; kernel_rfl
theorem t_kindsL : kindsL 10 3 1 exSS [] = [6, 2] := by unfold kindsL; rw [t_check]; kernel_rfl
theorem t_coursesL : coursesL 10 3 1 exSS [] = [0, 0, 2] := by unfold coursesL; rw [t_check]; kernel_rfl
theorem t_inE : inE 10 3 1 exSS [] 1715 2 = 0 := by unfold inE; rw [t_check]; kernel_rfl
theorem t_inX : inX 10 3 1 exSS [] 1715 2 = ⟨7, 19, 3, 9⟩ := by unfold inX; rw [t_inE]; kernel_rfl
theorem t_needsL : needsL 10 3 1 exSS [] = [1, 3] := by
  unfold needsL
  rw [t_check, show need2 10 3 1 exSS [] ([] : List NoteD).length = [1, 3] by kernel_rfl, sort_up (by decide)]
  rfl
theorem t_leastE : leastE 10 3 1 exSS exNS = 9 := by unfold leastE; rw [t_check2]; kernel_rfl
theorem t_given3 : givenE 10 3 1 (exSS.take 2) [] [0] = 0 := by unfold givenE; rw [t_check3]; kernel_rfl
theorem t_tgE3 : tgE 10 3 1 (exSS.take 2) [] [0] = 0 := by unfold tgE; rw [t_given3]; kernel_rfl
theorem t_tgH3 : tgH 10 3 1 (exSS.take 2) [] [0] = tellH 10 3 1 (exSS.take 2) [] [0] := by unfold tgH; rw [t_given3]; rfl
theorem t_high1 : (tgH 10 3 1 (exSS.take 2) [] [0]).getD 1 spanD = ⟨10, 25⟩ := by rw [t_tgH3]; kernel_rfl
theorem t_highL : (tgH 10 3 1 (exSS.take 2) [] [0]).length = 2 := by rw [t_tgH3]; kernel_rfl
theorem t_mayE1 : mayE 10 3 1 (exSS.getD 0 sightD) (exSS.getD 1 sightD) = 0 := by kernel_rfl
theorem t_mayE2 : mayE 10 3 1 (exSS.getD 0 sightD) (exSS.getD 2 sightD) = 0 := by kernel_rfl
theorem t_mayT1 : mayT 10 3 1 (exSS.getD 0 sightD) (exSS.getD 1 sightD) = true := by kernel_rfl
theorem t_mayT2 : mayT 10 3 1 (exSS.getD 0 sightD) (exSS.getD 2 sightD) = false := by kernel_rfl
end Go.Proofs.YthgllnnlngihoaaGreat.Sx
end
