/- StonePatternsAsSpecified: for all texts and each sight the law returns true, and the arguments read as they did. No condition. -/
import Derived.Test.YthgllnnlngihoaaGreatRows
import Derived.ProofKit
import Derived.ClosedOfChecked
import Derived.SizedLaws
import Derived.ChangeMaps5
import Derived.Test.YthgllnnlngihoaaGreatSz17
section
set_option linter.unusedVariables false
set_option linter.unusedSimpArgs false
set_option maxRecDepth 100000
namespace Go.Proofs.YthgllnnlngihoaaGreat.Sx
open Go.RowKit Go.Sort

theorem lit1_row {a : Int} {side : Prop} {k : Nat} {r : List Nat} : listOf intCod ⟨side, .lit 1, k, chunk 1 [.i .i64 (.lit a)], r⟩ = [a] := rfl
theorem lit2_row {a b : Int} {side : Prop} {k : Nat} {r : List Nat} : listOf intCod ⟨side, .lit 2, k, chunk 1 [.i .i64 (.lit a), .i .i64 (.lit b)], r⟩ = [a, b] := rfl
theorem lit3_row {a b c : Int} {side : Prop} {k : Nat} {r : List Nat} : listOf intCod ⟨side, .lit 3, k, chunk 1 [.i .i64 (.lit a), .i .i64 (.lit b), .i .i64 (.lit c)], r⟩ = [a, b, c] := rfl
theorem nil_row {side : Prop} {k : Nat} {get : Nat → List CV} {r : List Nat} : listOf noteCod ⟨side, .lit 0, k, get, r⟩ = [] := rfl
theorem lit1_ok {a : Int} {M : Mem} {c : CV} {r : List Nat} (h : seen M c = ⟨True, .lit 1, 1, chunk 1 [.i .i64 (.lit a)], r⟩) : okInts M c := by
  unfold okInts
  rw [h]
  refine ⟨trivial, fun _ => rfl, fun e he => ?_⟩
  have he : e < 1 := he
  match e, he with
  | 0, _ => exact int1_le rfl
theorem lit2_ok {a b : Int} {M : Mem} {c : CV} {r : List Nat} (h : seen M c = ⟨True, .lit 2, 1, chunk 1 [.i .i64 (.lit a), .i .i64 (.lit b)], r⟩) : okInts M c := by
  unfold okInts
  rw [h]
  refine ⟨trivial, fun _ => rfl, fun e he => ?_⟩
  have he : e < 2 := he
  match e, he with
  | 0, _ => exact int1_le rfl
  | 1, _ => exact int1_le rfl
theorem lit3_ok {a b c' : Int} {M : Mem} {c : CV} {r : List Nat} (h : seen M c = ⟨True, .lit 3, 1, chunk 1 [.i .i64 (.lit a), .i .i64 (.lit b), .i .i64 (.lit c')], r⟩) : okInts M c := by
  unfold okInts
  rw [h]
  refine ⟨trivial, fun _ => rfl, fun e he => ?_⟩
  have he : e < 3 := he
  match e, he with
  | 0, _ => exact int1_le rfl
  | 1, _ => exact int1_le rfl
  | 2, _ => exact int1_le rfl
theorem nil_notes {M : Mem} : okNotes M (.c (.slice none 0 0)) ∧ notes M (.c (.slice none 0 0)) = [] := ⟨⟨trivial, fun h => absurd h (Nat.not_lt_zero 0), fun e he => absurd he (Nat.not_lt_zero e)⟩, rfl⟩
theorem ex_life {M : Mem} {c : CV} {ss : List SightD} {r : List Nat} (h : seen M c = ⟨True, .sy (fun _ => ss.length) 0, 9, fun e => encSight fun _ => ss.getD e sightD, r⟩) (hl : ss.length ≤ 1000) : okLife M c (.c (.slice none 0 0)) := by
  obtain ⟨a, b⟩ := sights_at ss M c h
  exact ⟨a, nil_notes.1, by rw [b]; omega, by rw [nil_notes.2]; exact Nat.zero_le _⟩
theorem e00 : eqB 0 0 = true := rfl
theorem s1 : sameB [6, 2] [6, 2] = true := rfl
theorem s2 : sameB [0, 0, 2] [0, 0, 2] = true := rfl
theorem s3 : sameB [1, 3] [1, 3] = true := rfl
theorem g00 : givenE 10 3 1 exSS [] [0, 0] = 0 := t_given _ (by kernel_rfl)
theorem g11 : givenE 10 3 1 exSS [] [1, 1] = 0 := t_given _ (by kernel_rfl)
theorem g21 : givenE 10 3 1 exSS [] [2, 1] = 0 := t_given _ (by kernel_rfl)
theorem vc_k {e : En} {X : Cx} {c : Code} {st : St} {K : Exit → St → Prop} (h : ∀ K' : Exit → St → Prop, (∀ x s, K' x s = K x s) → vc e X c st K') : vc e X c st K := h K fun _ _ => rfl
theorem vc_seq {e : En} {X : Cx} {a b : Code} {st : St} {K : Exit → St → Prop} (h : vc e X a st fun x s => match x with
    | .normal => vc e X b s K
    | x => K x s) : vc e X (a.seq b) st K := h
theorem note1_row {a b c d : Int} {side : Prop} {k : Nat} {r : List Nat} : listOf noteCod ⟨side, .lit 1, k, chunk 4 [.i .i64 (.lit a), .i .i64 (.lit b), .i .i64 (.lit c), .i .i64 (.lit d)], r⟩ = [⟨a, b, c, d⟩] := rfl
theorem note1_ok {a b c' d : Int} {M : Mem} {c : CV} {r : List Nat} (h : seen M c = ⟨True, .lit 1, 4, chunk 4 [.i .i64 (.lit a), .i .i64 (.lit b), .i .i64 (.lit c'), .i .i64 (.lit d)], r⟩) : okNotes M c ∧ (notes M c).length ≤ 140737488355328 := by
  unfold okNotes notes
  rw [h]
  refine ⟨⟨trivial, fun _ => rfl, fun e he => ?_⟩, by show 1 ≤ _; decide⟩
  have he : e < 1 := he
  match e, he with
  | 0, _ => exact ⟨⟨isT_iff.2 rfl, eqIP_of rfl⟩, ⟨isT_iff.2 rfl, eqIP_of rfl⟩, ⟨isT_iff.2 rfl, eqIP_of rfl⟩, ⟨isT_iff.2 rfl, eqIP_of rfl⟩, trivial⟩
theorem ex_life2 {M : Mem} {c d : CV} {ss : List SightD} {r : List Nat} (h : seen M c = ⟨True, .sy (fun _ => ss.length) 0, 9, fun e => encSight fun _ => ss.getD e sightD, r⟩) (hl : ss.length ≤ 1000) (hn : okNotes M d ∧ (notes M d).length ≤ 140737488355328) : okLife M c d := by
  obtain ⟨a, b⟩ := sights_at ss M c h
  exact ⟨a, hn.1, by rw [b]; omega, hn.2⟩
theorem cut2_row {side : Prop} {k : Nat} {r : List Nat} : listOf sightCod ⟨side, .lit 2, k, fun e => encSight fun _ => exSS.getD e sightD, r⟩ = exSS.take 2 := rfl
theorem cut2_life {M : Mem} {c : CV} {side : Prop} {r : List Nat} (h : seen M c = ⟨side, .lit 2, 9, fun e => encSight fun _ => exSS.getD e sightD, r⟩) (hs : side) : okLife M c (.c (.slice none 0 0)) := by
  refine ⟨?_, nil_notes.1, ?_, by rw [nil_notes.2]; exact Nat.zero_le _⟩
  · unfold okSights
    rw [h]
    exact ⟨hs, fun _ => rfl, fun e _ => closedL_le rfl⟩
  · unfold sights
    rw [h]
    show 2 ≤ _
    decide
theorem opsK_append {T : Tab} {E : EqTab} {Γ : Gam} {lazy : Bool} {ops : Array Oper} : ∀ (l m : List Oper) (st : St) (acc : List (Nat × List Nat × List Nat)) (K : St → List (Nat × List Nat × List Nat) → Prop), opsK T E Γ lazy ops l st acc (fun st' acc' => opsK T E Γ lazy ops m st' acc' K) → opsK T E Γ lazy ops (l ++ m) st acc K
  | [], m, st, acc, K, h => h
  | o :: l, m, st, acc, K, h => ⟨h.1, opsK_append l m _ _ K h.2⟩
theorem opsK_k {T : Tab} {E : EqTab} {Γ : Gam} {lazy : Bool} {ops : Array Oper} {l : List Oper} {st : St} {acc : List (Nat × List Nat × List Nat)} {K : St → List (Nat × List Nat × List Nat) → Prop} (h : ∀ K' : St → List (Nat × List Nat × List Nat) → Prop, (∀ x s, K' x s = K x s) → opsK T E Γ lazy ops l st acc K') : opsK T E Γ lazy ops l st acc K := h K fun _ _ => rfl
theorem vc_region {e : En} {X : Cx} {id : Nat} {ops : Array Oper} {draw : Bool} {st : St} {K : Exit → St → Prop} (n : Nat) (hpr : e.pr id = false) (h : opsK e.T e.E e.Γ e.lazy ops (ops.toList.take n) st [] fun st' acc => opsK e.T e.E e.Γ e.lazy ops (ops.toList.drop n) st' acc fun st2 acc2 => ordersOk ops draw acc2 ∧ K .normal st2) : vc e X (.region id ops draw) st K := by
  have h2 := opsK_append _ _ _ _ _ h
  rw [List.take_append_drop] at h2
  simp only [vc, hpr]
  exact h2
theorem eqB_self (a : Int) : eqB a a = true := decide_eq_true rfl
theorem e33 : eqB (IX.nat (fun _ => 3) 0).val 3 = true := rfl
theorem e22 : eqB (IX.nat (fun _ => 2) 0).val 2 = true := rfl
theorem text3_row {f0 f1 f2 : Unit → ByteArray} {side : Prop} {k : Nat} {r : List Nat} : listOf textCod ⟨side, .lit 3, k, chunk 1 [.s f0, .s f1, .s f2], r⟩ = [f0 (), f1 (), f2 ()] := rfl
theorem text3_ok {f0 f1 f2 : Unit → ByteArray} {M : Mem} {c : CV} {r : List Nat} (h : seen M c = ⟨True, .lit 3, 1, chunk 1 [.s f0, .s f1, .s f2], r⟩) : okTexts M c := by
  unfold okTexts
  rw [h]
  refine ⟨trivial, fun _ => rfl, fun e he => ?_⟩
  have he : e < 3 := he
  match e, he with
  | 0, _ => exact closedL_le (l := [.s f0]) rfl
  | 1, _ => exact closedL_le (l := [.s f1]) rfl
  | 2, _ => exact closedL_le (l := [.s f2]) rfl
theorem texts_at (bs : List ByteArray) (M : Mem) (c : CV) {r : List Nat} (h : seen M c = ⟨True, .sy (fun _ => bs.length) 0, 1, fun e => encText fun _ => bs.getD e textD, r⟩) : okTexts M c ∧ texts M c = bs := by
  unfold okTexts texts
  rw [h]
  exact ⟨text_ok bs r, text_row bs True 1 r⟩
theorem s4 : sameT [⟨#[65, 46]⟩, ⟨#[65, 66]⟩, ⟨#[65, 66]⟩] [⟨#[65, 46]⟩, ⟨#[65, 66]⟩, ⟨#[65, 66]⟩] = true := by kernel_rfl
theorem u_leastE : leastE 10 3 1 exSS [⟨9, 0, 1700, 1710⟩] = 9 := t_leastE
theorem u_mayE1 : mayE 10 3 1 ⟨(exSS.getD 0 sightD).id, (exSS.getD 0 sightD).year, (exSS.getD 0 sightD).x0, (exSS.getD 0 sightD).x1, (exSS.getD 0 sightD).y0, (exSS.getD 0 sightD).y1, (exSS.getD 0 sightD).ls, (exSS.getD 0 sightD).lo, (exSS.getD 0 sightD).hi⟩ ⟨(exSS.getD 1 sightD).id, (exSS.getD 1 sightD).year, (exSS.getD 1 sightD).x0, (exSS.getD 1 sightD).x1, (exSS.getD 1 sightD).y0, (exSS.getD 1 sightD).y1, (exSS.getD 1 sightD).ls, (exSS.getD 1 sightD).lo, (exSS.getD 1 sightD).hi⟩ = 0 := t_mayE1
theorem u_mayE2 : mayE 10 3 1 ⟨(exSS.getD 0 sightD).id, (exSS.getD 0 sightD).year, (exSS.getD 0 sightD).x0, (exSS.getD 0 sightD).x1, (exSS.getD 0 sightD).y0, (exSS.getD 0 sightD).y1, (exSS.getD 0 sightD).ls, (exSS.getD 0 sightD).lo, (exSS.getD 0 sightD).hi⟩ ⟨(exSS.getD 2 sightD).id, (exSS.getD 2 sightD).year, (exSS.getD 2 sightD).x0, (exSS.getD 2 sightD).x1, (exSS.getD 2 sightD).y0, (exSS.getD 2 sightD).y1, (exSS.getD 2 sightD).ls, (exSS.getD 2 sightD).lo, (exSS.getD 2 sightD).hi⟩ = 0 := t_mayE2
theorem u_mayT1 : mayT 10 3 1 ⟨(exSS.getD 0 sightD).id, (exSS.getD 0 sightD).year, (exSS.getD 0 sightD).x0, (exSS.getD 0 sightD).x1, (exSS.getD 0 sightD).y0, (exSS.getD 0 sightD).y1, (exSS.getD 0 sightD).ls, (exSS.getD 0 sightD).lo, (exSS.getD 0 sightD).hi⟩ ⟨(exSS.getD 1 sightD).id, (exSS.getD 1 sightD).year, (exSS.getD 1 sightD).x0, (exSS.getD 1 sightD).x1, (exSS.getD 1 sightD).y0, (exSS.getD 1 sightD).y1, (exSS.getD 1 sightD).ls, (exSS.getD 1 sightD).lo, (exSS.getD 1 sightD).hi⟩ = true := t_mayT1
theorem u_mayT2 : mayT 10 3 1 ⟨(exSS.getD 0 sightD).id, (exSS.getD 0 sightD).year, (exSS.getD 0 sightD).x0, (exSS.getD 0 sightD).x1, (exSS.getD 0 sightD).y0, (exSS.getD 0 sightD).y1, (exSS.getD 0 sightD).ls, (exSS.getD 0 sightD).lo, (exSS.getD 0 sightD).hi⟩ ⟨(exSS.getD 2 sightD).id, (exSS.getD 2 sightD).year, (exSS.getD 2 sightD).x0, (exSS.getD 2 sightD).x1, (exSS.getD 2 sightD).y0, (exSS.getD 2 sightD).y1, (exSS.getD 2 sightD).ls, (exSS.getD 2 sightD).lo, (exSS.getD 2 sightD).hi⟩ = false := t_mayT2
noncomputable def sanG : List (FuncId × Spec) := [(71, spExample), (17, spFits), (19, spPlaces), (21, spLettersL), (28, spKindsOf), (30, spCoursesOf), (46, spIn), (33, spNeeds), (32, spSameInts), (61, spBox), (72, spLeastOf), (20, spHeights), (64, spMay2), (27, spSameTexts)]
theorem sanity_vc (B : Nat) : vc (enE sanG) ⟨fun _ => none, B, fun _ => False, Tryz.f16.ntmps, none⟩ (fbody Tryz.f16) (start [] []) fun x s => isRet x ∧ (resultI tab Tryz.f16.results.toList s.S.get (lget s.M)).1 ∧ IvLe (fun _ => none) (resultI tab Tryz.f16.results.toList s.S.get (lget s.M)).2 (cbool (.lit true)) := by
  cbv
  simp only [IX.v_lit, notes, nil_row, lit1_row, lit2_row, lit3_row, in_true, eq_self, and_true, true_and, ints, texts, spans, boxs, sights, seen, lget, reduceIte, Nat.reduceEqDiff, reduceCtorEq, Nat.succ_ne_self, Nat.zero_ne_one, Nat.one_ne_zero, int_row0, int_row, text_row, span_row, box_row, note_row, sight_row]
  simp only [g00, g11, g21, t_same, t_moved, t_tgE, t_at0, t_atL, t_tgL, t_kindsE, t_kindsL, t_coursesL, t_inE, t_inX, t_needsL, t_check]
  simp only [IX.v_sy, BX.v_sy, BX.v_lit, NX.v_sy, NX.v_lit, e00, Bool.not_true, Bool.not_false, Bool.or_false, Bool.or_true, Bool.and_true, Bool.and_false, Bool.false_eq_true, Bool.true_eq_false, implies_true, false_implies, true_implies, in_true, true_and, and_true, eq_self, and_self]
  refine ⟨⟨ex_life rfl (by decide), lit2_ok rfl, by decide⟩, ⟨ex_life rfl (by decide), lit2_ok rfl, by decide⟩, ⟨ex_life rfl (by decide), lit2_ok rfl, by decide⟩, ⟨ex_life rfl (by decide), lit2_ok rfl, by decide⟩, ⟨ex_life rfl (by decide)⟩, ⟨ex_life rfl (by decide)⟩, ⟨ex_life rfl (by decide)⟩, ⟨ex_life rfl (by decide)⟩, ?_⟩
  refine vc_k fun K hK => ?_
  cbv
  rw [hK]
  clear hK K
  show vc _ _ (Code.seq _ _) _ _
  refine vc_seq (vc_k fun K hK => ?_)
  cbv
  try simp only [IX.v_lit, notes, nil_row, note1_row, cut2_row, text3_row, lit1_row, lit2_row, lit3_row, in_true, eq_self, and_true, true_and, ints, texts, spans, boxs, sights, seen, lget, reduceIte, Nat.reduceEqDiff, reduceCtorEq, Nat.succ_ne_self, Nat.zero_ne_one, Nat.one_ne_zero, int_row0, int_row, text_row, span_row, box_row, note_row, sight_row]
  try simp only [eqB_self, e33, e22, s4, t_at0, u_leastE, t_tgE3, t_high1, t_highL, u_mayE1, u_mayE2, u_mayT1, u_mayT2, IX.v_sy, BX.v_sy, BX.v_lit, NX.v_sy, NX.v_lit, e00, s1, s2, s3, Bool.not_true, Bool.not_false, Bool.or_false, Bool.or_true, Bool.and_true, Bool.and_false, Bool.true_and, Bool.false_and, Bool.false_eq_true, Bool.true_eq_false, implies_true, false_implies, true_implies, in_true, true_and, and_true, eq_self, and_self]
  refine ⟨⟨(ints_at [6, 2] _ _ rfl).1, by decide, lit2_ok rfl⟩, ⟨(ints_at [0, 0, 2] _ _ rfl).1, by decide, lit3_ok rfl⟩, ⟨(ints_at [1, 3] _ _ rfl).1, by decide, lit2_ok rfl⟩, ⟨by kernel_rfl⟩, ?_⟩
  rw [hK]
  clear hK K
  show vc _ _ (Code.seq _ _) _ _
  refine vc_seq (vc_k fun K hK => ?_)
  cbv
  try simp only [IX.v_lit, notes, nil_row, note1_row, cut2_row, text3_row, lit1_row, lit2_row, lit3_row, in_true, eq_self, and_true, true_and, ints, texts, spans, boxs, sights, seen, lget, reduceIte, Nat.reduceEqDiff, reduceCtorEq, Nat.succ_ne_self, Nat.zero_ne_one, Nat.one_ne_zero, int_row0, int_row, text_row, span_row, box_row, note_row, sight_row]
  try simp only [eqB_self, e33, e22, s4, t_at0, u_leastE, t_tgE3, t_high1, t_highL, u_mayE1, u_mayE2, u_mayT1, u_mayT2, IX.v_sy, BX.v_sy, BX.v_lit, NX.v_sy, NX.v_lit, e00, s1, s2, s3, Bool.not_true, Bool.not_false, Bool.or_false, Bool.or_true, Bool.and_true, Bool.and_false, Bool.true_and, Bool.false_and, Bool.false_eq_true, Bool.true_eq_false, implies_true, false_implies, true_implies, in_true, true_and, and_true, eq_self, and_self]
  rw [hK]
  clear hK K
  show vc _ _ (Code.seq _ _) _ _
  refine vc_seq (vc_k fun K hK => ?_)
  cbv
  try simp only [IX.v_lit, notes, nil_row, note1_row, cut2_row, text3_row, lit1_row, lit2_row, lit3_row, in_true, eq_self, and_true, true_and, ints, texts, spans, boxs, sights, seen, lget, reduceIte, Nat.reduceEqDiff, reduceCtorEq, Nat.succ_ne_self, Nat.zero_ne_one, Nat.one_ne_zero, int_row0, int_row, text_row, span_row, box_row, note_row, sight_row]
  try simp only [eqB_self, e33, e22, s4, t_at0, u_leastE, t_tgE3, t_high1, t_highL, u_mayE1, u_mayE2, u_mayT1, u_mayT2, IX.v_sy, BX.v_sy, BX.v_lit, NX.v_sy, NX.v_lit, e00, s1, s2, s3, Bool.not_true, Bool.not_false, Bool.or_false, Bool.or_true, Bool.and_true, Bool.and_false, Bool.true_and, Bool.false_and, Bool.false_eq_true, Bool.true_eq_false, implies_true, false_implies, true_implies, in_true, true_and, and_true, eq_self, and_self]
  rw [hK]
  clear hK K
  show vc _ _ (Code.seq _ _) _ _
  refine vc_seq (vc_k fun K hK => ?_)
  cbv
  try simp only [IX.v_lit, notes, nil_row, note1_row, cut2_row, text3_row, lit1_row, lit2_row, lit3_row, in_true, eq_self, and_true, true_and, ints, texts, spans, boxs, sights, seen, lget, reduceIte, Nat.reduceEqDiff, reduceCtorEq, Nat.succ_ne_self, Nat.zero_ne_one, Nat.one_ne_zero, int_row0, int_row, text_row, span_row, box_row, note_row, sight_row]
  try simp only [eqB_self, e33, e22, s4, t_at0, u_leastE, t_tgE3, t_high1, t_highL, u_mayE1, u_mayE2, u_mayT1, u_mayT2, IX.v_sy, BX.v_sy, BX.v_lit, NX.v_sy, NX.v_lit, e00, s1, s2, s3, Bool.not_true, Bool.not_false, Bool.or_false, Bool.or_true, Bool.and_true, Bool.and_false, Bool.true_and, Bool.false_and, Bool.false_eq_true, Bool.true_eq_false, implies_true, false_implies, true_implies, in_true, true_and, and_true, eq_self, and_self]
  refine ⟨⟨ex_life2 rfl (by decide) (note1_ok rfl)⟩, ?_⟩
  rw [hK]
  clear hK K
  show vc _ _ (Code.seq _ _) _ _
  refine vc_seq (vc_k fun K hK => ?_)
  cbv
  try simp only [IX.v_lit, notes, nil_row, note1_row, cut2_row, text3_row, lit1_row, lit2_row, lit3_row, in_true, eq_self, and_true, true_and, ints, texts, spans, boxs, sights, seen, lget, reduceIte, Nat.reduceEqDiff, reduceCtorEq, Nat.succ_ne_self, Nat.zero_ne_one, Nat.one_ne_zero, int_row0, int_row, text_row, span_row, box_row, note_row, sight_row]
  try simp only [eqB_self, e33, e22, s4, t_at0, u_leastE, t_tgE3, t_high1, t_highL, u_mayE1, u_mayE2, u_mayT1, u_mayT2, IX.v_sy, BX.v_sy, BX.v_lit, NX.v_sy, NX.v_lit, e00, s1, s2, s3, Bool.not_true, Bool.not_false, Bool.or_false, Bool.or_true, Bool.and_true, Bool.and_false, Bool.true_and, Bool.false_and, Bool.false_eq_true, Bool.true_eq_false, implies_true, false_implies, true_implies, in_true, true_and, and_true, eq_self, and_self]
  rw [hK]
  clear hK K
  show vc _ _ (Code.seq _ _) _ _
  refine vc_seq (vc_k fun K hK => ?_)
  cbv
  try simp only [IX.v_lit, notes, nil_row, note1_row, cut2_row, text3_row, lit1_row, lit2_row, lit3_row, in_true, eq_self, and_true, true_and, ints, texts, spans, boxs, sights, seen, lget, reduceIte, Nat.reduceEqDiff, reduceCtorEq, Nat.succ_ne_self, Nat.zero_ne_one, Nat.one_ne_zero, int_row0, int_row, text_row, span_row, box_row, note_row, sight_row]
  try simp only [eqB_self, e33, e22, s4, t_at0, u_leastE, t_tgE3, t_high1, t_highL, u_mayE1, u_mayE2, u_mayT1, u_mayT2, IX.v_sy, BX.v_sy, BX.v_lit, NX.v_sy, NX.v_lit, e00, s1, s2, s3, Bool.not_true, Bool.not_false, Bool.or_false, Bool.or_true, Bool.and_true, Bool.and_false, Bool.true_and, Bool.false_and, Bool.false_eq_true, Bool.true_eq_false, implies_true, false_implies, true_implies, in_true, true_and, and_true, eq_self, and_self]
  refine ⟨⟨by decide⟩, ?_⟩
  rw [hK]
  clear hK K
  show vc _ _ (Code.seq _ _) _ _
  refine vc_seq (vc_k fun K hK => ?_)
  cbv
  try simp only [IX.v_lit, notes, nil_row, note1_row, cut2_row, text3_row, lit1_row, lit2_row, lit3_row, in_true, eq_self, and_true, true_and, ints, texts, spans, boxs, sights, seen, lget, reduceIte, Nat.reduceEqDiff, reduceCtorEq, Nat.succ_ne_self, Nat.zero_ne_one, Nat.one_ne_zero, int_row0, int_row, text_row, span_row, box_row, note_row, sight_row]
  try simp only [eqB_self, e33, e22, s4, t_at0, u_leastE, t_tgE3, t_high1, t_highL, u_mayE1, u_mayE2, u_mayT1, u_mayT2, IX.v_sy, BX.v_sy, BX.v_lit, NX.v_sy, NX.v_lit, e00, s1, s2, s3, Bool.not_true, Bool.not_false, Bool.or_false, Bool.or_true, Bool.and_true, Bool.and_false, Bool.true_and, Bool.false_and, Bool.false_eq_true, Bool.true_eq_false, implies_true, false_implies, true_implies, in_true, true_and, and_true, eq_self, and_self]
  refine ⟨⟨cut2_life rfl ⟨by decide⟩, lit1_ok rfl, by decide⟩, ?_⟩
  rw [hK]
  clear hK K
  show vc _ _ (Code.seq _ _) _ _
  refine vc_seq (vc_k fun K hK => ?_)
  cbv
  try simp only [IX.v_lit, notes, nil_row, note1_row, cut2_row, text3_row, lit1_row, lit2_row, lit3_row, in_true, eq_self, and_true, true_and, ints, texts, spans, boxs, sights, seen, lget, reduceIte, Nat.reduceEqDiff, reduceCtorEq, Nat.succ_ne_self, Nat.zero_ne_one, Nat.one_ne_zero, int_row0, int_row, text_row, span_row, box_row, note_row, sight_row]
  try simp only [eqB_self, e33, e22, s4, t_at0, u_leastE, t_tgE3, t_high1, t_highL, u_mayE1, u_mayE2, u_mayT1, u_mayT2, IX.v_sy, BX.v_sy, BX.v_lit, NX.v_sy, NX.v_lit, e00, s1, s2, s3, Bool.not_true, Bool.not_false, Bool.or_false, Bool.or_true, Bool.and_true, Bool.and_false, Bool.true_and, Bool.false_and, Bool.false_eq_true, Bool.true_eq_false, implies_true, false_implies, true_implies, in_true, true_and, and_true, eq_self, and_self]
  refine ⟨⟨by decide⟩, ⟨by decide⟩, ⟨by decide⟩, ⟨by decide⟩, ?_⟩
  rw [hK]
  clear hK K
  show vc _ _ (Code.seq _ _) _ _
  refine vc_seq (vc_k fun K hK => ?_)
  cbv
  try simp only [IX.v_lit, notes, nil_row, note1_row, cut2_row, text3_row, lit1_row, lit2_row, lit3_row, in_true, eq_self, and_true, true_and, ints, texts, spans, boxs, sights, seen, lget, reduceIte, Nat.reduceEqDiff, reduceCtorEq, Nat.succ_ne_self, Nat.zero_ne_one, Nat.one_ne_zero, int_row0, int_row, text_row, span_row, box_row, note_row, sight_row]
  try simp only [eqB_self, e33, e22, s4, t_at0, u_leastE, t_tgE3, t_high1, t_highL, u_mayE1, u_mayE2, u_mayT1, u_mayT2, IX.v_sy, BX.v_sy, BX.v_lit, NX.v_sy, NX.v_lit, e00, s1, s2, s3, Bool.not_true, Bool.not_false, Bool.or_false, Bool.or_true, Bool.and_true, Bool.and_false, Bool.true_and, Bool.false_and, Bool.false_eq_true, Bool.true_eq_false, implies_true, false_implies, true_implies, in_true, true_and, and_true, eq_self, and_self]
  refine ⟨⟨by decide⟩, ⟨by decide⟩, ⟨by decide⟩, ⟨by decide⟩, ?_⟩
  rw [hK]
  clear hK K
  show vc _ _ (Code.seq _ _) _ _
  refine vc_seq (vc_region 27 rfl (opsK_k fun K hK => ?_))
  cbv
  try simp only [IX.v_lit, notes, nil_row, note1_row, cut2_row, text3_row, lit1_row, lit2_row, lit3_row, in_true, eq_self, and_true, true_and, ints, texts, spans, boxs, sights, seen, lget, reduceIte, Nat.reduceEqDiff, reduceCtorEq, Nat.succ_ne_self, Nat.zero_ne_one, Nat.one_ne_zero, int_row0, int_row, text_row, span_row, box_row, note_row, sight_row]
  try simp only [eqB_self, e33, e22, s4, t_at0, u_leastE, t_tgE3, t_high1, t_highL, u_mayE1, u_mayE2, u_mayT1, u_mayT2, IX.v_sy, BX.v_sy, BX.v_lit, NX.v_sy, NX.v_lit, e00, s1, s2, s3, Bool.not_true, Bool.not_false, Bool.or_false, Bool.or_true, Bool.and_true, Bool.and_false, Bool.true_and, Bool.false_and, Bool.false_eq_true, Bool.true_eq_false, implies_true, false_implies, true_implies, in_true, true_and, and_true, eq_self, and_self]
  refine ⟨⟨by decide⟩, ⟨by decide⟩, ⟨(texts_at [⟨#[65, 46]⟩, ⟨#[65, 66]⟩, ⟨#[65, 66]⟩] _ _ rfl).1, by decide, text3_ok rfl⟩, ?_⟩
  rw [hK]
  clear hK K
  cbv
  try simp only [IX.v_lit, notes, nil_row, note1_row, cut2_row, text3_row, lit1_row, lit2_row, lit3_row, in_true, eq_self, and_true, true_and, ints, texts, spans, boxs, sights, seen, lget, reduceIte, Nat.reduceEqDiff, reduceCtorEq, Nat.succ_ne_self, Nat.zero_ne_one, Nat.one_ne_zero, int_row0, int_row, text_row, span_row, box_row, note_row, sight_row]
  try simp only [eqB_self, e33, e22, s4, t_at0, u_leastE, t_tgE3, t_high1, t_highL, u_mayE1, u_mayE2, u_mayT1, u_mayT2, IX.v_sy, BX.v_sy, BX.v_lit, NX.v_sy, NX.v_lit, e00, s1, s2, s3, Bool.not_true, Bool.not_false, Bool.or_false, Bool.or_true, Bool.and_true, Bool.and_false, Bool.true_and, Bool.false_and, Bool.false_eq_true, Bool.true_eq_false, implies_true, false_implies, true_implies, in_true, true_and, and_true, eq_self, and_self]
  exact ⟨⟨by decide⟩, ⟨by decide⟩, ⟨by kernel_rfl⟩⟩
theorem okSanity : SpecOk F0 Tryz.prog 16 spSanity := by
  refine spec_pure (e := enE sanG) (enE_ok (l := sanG) ⟨okExample, okFits, okPlaces, okLettersL, okKindsOf, okCoursesOf, okIn, okNeeds, okSameInts, okBox, okLeastOf, okHeights, okMay2, okSameTexts, trivial⟩) rfl (fn := Tryz.f16) (c := fbody Tryz.f16) (by kernel_rfl) rfl rfl (by kernel_rfl) (fun _ _ _ _ => rfl) fun args M base hs => ?_
  unfold spSanity at hs ⊢
  split at hs
  · exact ⟨Nat.le_of_ble_eq_true rfl, rfl, rfl, rfl, rfl, sanity_vc⟩
  · exact hs.elim
theorem okLaw6Whole : SpecOk F0 Tryz.prog 6 spLaw6 := okLaw6 okSanity
end Go.Proofs.YthgllnnlngihoaaGreat.Sx
end
section
set_option maxRecDepth 100000
namespace Go.Proofs.YthgllnnlngihoaaGreat
open Go.ChangeShapes Go.WideShapes Go.ChangeAt Go.RowKit

theorem own : ownKnob Tryz.prog.godebug = none := by kernel_rfl
theorem closed3 : laidOutB Tryz.checked.prog = true ∧ mapsRowed Tryz.checked.prog = true ∧ Tryz.checked.prog.plainKeys = true := Go.ClosedOfChecked.closed_of_checked Tryz.checked (by kernel_rfl) (by kernel_rfl) (by kernel_rfl)
theorem laidOut : laidOutB Tryz.prog = true := closed3.1
theorem mayEnters : Tryz.pinned.checked.prog.mayEnter = true := by kernel_rfl

theorem facts_of (P : Program) (f : FuncId) (fn : Func) (s : ChangeSpec) (c : OpenClaim)
  (h2 : laidOutB P = true) (h3 : mapsRowed P = true)
  (h0 : c.wf (OpenSpec.ofChange s) = true)
  (h4 : fn.params.all (P.readableRec ·) = true) (h5 : namedTie P c.named s.vars = true)
  (h6 : ((c.stops == []) && (P.stops == []) && (c.knobs == []) && (P.stopKnobs == [])) = true)
  (h7 : (c.inPlace == P.inPlace f) = true) (h8 : (c.unfollowed == P.unfollowed f) = true) (h9 : (c.recurses == P.recurses f) = true) (h10 : (c.named == P.varsNamed f) = true)
  (h11 : ((c.maps == (fn.params.toList ++ s.plain.varTypes P).any (P.mapsRec ·)) && (c.ifaces == (fn.params.toList ++ s.plain.varTypes P).any (P.ifacesRec ·)) && (c.mapsOut == P.mapsAmong fn.resultTypes.toList)) = true)
  (h12 : ((c.loops == (fn.params.toList ++ s.plain.varTypes P).any (P.loopsFrom ·)) && (c.wideKeys == (fn.params.toList ++ s.plain.varTypes P ++ fn.resultTypes.toList).any (P.wideKeysFrom ·))) = true)
  (h13 : (s.vars.all (P.varReadable ·) && fn.resultTypes.all (fun t => P.readableRec t && decide (t < P.types.size)) && (c.ifacesOut == fn.resultTypes.toList.any (P.ifacesRec ·)) && (c.loopsOut == fn.resultTypes.toList.any (P.loopsFrom ·))) = true)
  (h14 : (c.plainKeys == P.plainKeys) = true)
  (h15 : (c.shortTexts.isNone && P.stopsHeard) = true) (h16 : P.mayEnter = true) (h17 : (c.lifted == P.liftsFinal) = true) (h18 : (P.make == some c.make) = true) (h19 : (c.kinds == (if c.domain.isEmpty then [] else fn.params.toList.map fun t => match P.underlying t with | some (.int k) => some k | _ => none)) = true) (h20 : (c.pinned == c.pinnedBy) = true)
  (h21 : (c.veiled == (fn.params.toList ++ s.plain.varTypes P ++ fn.resultTypes.toList).any (P.veiledRec ·)) = true) (h22 : c.veiledFits P fn.params.toList (fn.params.toList ++ s.plain.varTypes P ++ fn.resultTypes.toList) = true) : joinedFacts P f fn s c = true := by
  unfold joinedFacts
  simp only [Bool.and_eq_true] at h6 h11 h12 h13 h15
  obtain ⟨⟨⟨a1, a2⟩, a3⟩, a4⟩ := h6
  obtain ⟨⟨b1, b2⟩, b3⟩ := h11
  obtain ⟨c1, c2⟩ := h12
  obtain ⟨⟨⟨d1, d2⟩, d3⟩, d4⟩ := h13
  obtain ⟨e1, e2⟩ := h15
  simp only [h2, h3, h0, h4, h5, a1, a2, a3, a4, h7, h8, h9, h10, b1, b2, b3, c1, c2, d1, d2, d3, d4, h14, e1, e2, h16, h17, h18, h20, h21, h22, Bool.and_true, Bool.true_and, Bool.and_self]
  exact h19

end Go.Proofs.YthgllnnlngihoaaGreat
end
section
set_option linter.unusedVariables false
set_option linter.unusedSimpArgs false
set_option maxRecDepth 100000
namespace Go.Proofs.YthgllnnlngihoaaGreat
open Go.ChangeShapes Go.WideShapes Go.ChangeAt Go.RowKit Sx

/-- What a call answers, by its contract, in whatever world. -/
theorem calls_of {f : FuncId} {sp : Sx.Spec} (h : SpecOk F0 Tryz.prog f sp) {args : List IV} {vals : List Value} {w : World} (ha : All2 (IR fun _ => none) args vals) (hs : (sp args (fun _ => none) 0).side) (hn : (sp args (fun _ => none) 0).news = []) (hu : (sp args (fun _ => none) 0).upd = []) :
    Calls Tryz.prog f vals.toArray w fun e w' => ∃ v σ', e = .returned v ∧ IR σ' (sp args (fun _ => none) 0).r v ∧ Below w.heap.size w w' := by
  have hS : Sim w.heap.size (fun _ => False) (fun _ => none) (fun _ => none) w := ⟨fun i v hi => (by cases hi), fun i j vi vj oi oj b hne si => (by cases si), fun i v oi b si => (by cases si), Nat.le_refl _⟩
  have hc := h.calls 0 w.heap.size (fun _ => False) (fun _ => none) (fun _ => none) w args vals 0 hS ha hs (by rw [hn]; intro t ob ht; simp at ht) (by rw [hn]; intro t ht; simp at ht)
  refine (callsIn_wide.1 hc).mono fun e w' hh => ?_
  cases e with
  | panicked _ => exact hh.elim
  | outgrown => exact hh.elim
  | returned v =>
    obtain ⟨σ', hk⟩ := hh
    exact ⟨v, σ', rfl, hk.r, ⟨hk.keep.os, hk.keep.tape, hk.keep.output, hk.keep.size, fun b hb => hk.keep.block b hb id⟩⟩

/-- A sight, as a value. -/
theorem sight_value {W : World} {base : Nat} {v : Value} (h : Value.okWide Tryz.prog W .any base 64 v) : ∃ (a b c d e f : Int) (s : ByteArray) (g i : Int), v = .agg #[.int .i64 a, .int .i64 b, .int .i64 c, .int .i64 d, .int .i64 e, .int .i64 f, .string s, .int .i64 g, .int .i64 i] := by
  have u3 := Tryz.underlying3
  have u9 := Tryz.underlying9
  have h64 : ∃ fs, Tryz.prog.underlying 64 = some (.struct fs) := ⟨_, Tryz.underlying64⟩
  obtain ⟨fs, hfs⟩ := h64
  unfold Value.okWide at h
  simp only [hfs] at h
  obtain ⟨cs, rfl, hsz, ts, hts, _, hc⟩ := h
  have hts2 : Tryz.prog.cellTypes Tryz.prog.depth 64 = some [3, 3, 3, 3, 3, 3, 9, 3, 3] := by kernel_rfl
  rw [hts2] at hts
  cases hts
  have hsz2 : Tryz.prog.cellsOf 64 = 9 := by kernel_rfl
  rw [hsz2] at hsz
  have hi : ∀ i v, cs[i]? = some v → [3, 3, 3, 3, 3, 3, 9, 3, 3][i % 9]? = some 3 → ∃ n, v = .int .i64 n := fun i v hv ht => by
    obtain ⟨u, hu, hk⟩ := hc i v hv
    have hu : [3, 3, 3, 3, 3, 3, 9, 3, 3][i % 9]? = some u := hu
    rw [ht] at hu
    cases hu
    exact okWide_int u3 (by unfold Value.okWide; simp only [u3]; exact hk)
  have hst : ∀ i v, cs[i]? = some v → [3, 3, 3, 3, 3, 3, 9, 3, 3][i % 9]? = some 9 → ∃ s, v = .string s := fun i v hv ht => by
    obtain ⟨u, hu, hk⟩ := hc i v hv
    have hu : [3, 3, 3, 3, 3, 3, 9, 3, 3][i % 9]? = some u := hu
    rw [ht] at hu
    cases hu
    exact okWide_string u9 (by unfold Value.okWide; simp only [u9]; exact hk)
  obtain ⟨l⟩ := cs
  match l, hsz with
  | [a, b, c, d, e, f, s, g, i], _ =>
    obtain ⟨a, rfl⟩ := hi 0 a rfl rfl
    obtain ⟨b, rfl⟩ := hi 1 b rfl rfl
    obtain ⟨c, rfl⟩ := hi 2 c rfl rfl
    obtain ⟨d, rfl⟩ := hi 3 d rfl rfl
    obtain ⟨e, rfl⟩ := hi 4 e rfl rfl
    obtain ⟨f, rfl⟩ := hi 5 f rfl rfl
    obtain ⟨s, rfl⟩ := hst 6 s rfl rfl
    obtain ⟨g, rfl⟩ := hi 7 g rfl rfl
    obtain ⟨i, rfl⟩ := hi 8 i rfl rfl
    exact ⟨a, b, c, d, e, f, s, g, i, rfl⟩

end Go.Proofs.YthgllnnlngihoaaGreat
end
section
set_option maxRecDepth 100000
namespace Go.Proofs.YthgllnnlngihoaaGreat
open Go.ChangeShapes Go.WideShapes Go.ChangeAt Go.RowKit

set_option maxHeartbeats 4000000 in
theorem p6_closed : joinedFacts Tryz.pinned.checked.prog 6 Tryz.f6 Rows.stonePatternsAsSpecifiedSpec Rows.stonePatternsAsSpecifiedRow = true :=
  facts_of _ _ _ _ _ closed3.1 closed3.2.1 (by as_aux_lemma => kernel_rfl) (by as_aux_lemma => kernel_rfl) (by as_aux_lemma => kernel_rfl) (by as_aux_lemma => kernel_rfl) (by as_aux_lemma => kernel_rfl) (by as_aux_lemma => kernel_rfl) (by as_aux_lemma => kernel_rfl) (by as_aux_lemma => kernel_rfl) (by as_aux_lemma => kernel_rfl) (by as_aux_lemma => kernel_rfl) (by as_aux_lemma => kernel_rfl)
    (by rw [show Tryz.pinned.checked.prog.plainKeys = true from closed3.2.2]; rfl) (by as_aux_lemma => kernel_rfl) mayEnters (by as_aux_lemma => kernel_rfl) (by as_aux_lemma => kernel_rfl) (by as_aux_lemma => kernel_rfl) (by as_aux_lemma => kernel_rfl) (by as_aux_lemma => kernel_rfl) (by as_aux_lemma => kernel_rfl)

end Go.Proofs.YthgllnnlngihoaaGreat
end
section
set_option linter.unusedVariables false
set_option linter.unusedSimpArgs false
set_option maxRecDepth 100000
namespace Go.Proofs.YthgllnnlngihoaaGreat
open Go.ChangeShapes Go.WideShapes Go.ChangeAt Go.RowKit Sx

theorem patterns_lifted (os : Os) (started : os.Started) (H : Type) (enc : TypeId × Value → H) :
    ReturnsInHanded {} Tryz.checked os 6 .any (Rows.stonePatternsAsSpecifiedSpec.pre6 enc Tryz.prog Tryz.f6 Rows.stonePatternsAsSpecifiedRow.domain false) (Rows.stonePatternsAsSpecifiedSpec.post enc Tryz.prog Tryz.f6 false true false false) := by
  refine returnsInHanded_of_change_sized (C := Tryz.checked) own started (by kernel_rfl) Tryz.func6
    (ChangeSpec.witness6 (enc := enc) (C := Tryz.checked) false ⟨#[], #[.string ⟨#[]⟩, .string ⟨#[]⟩, .agg #[.int .i64 0, .int .i64 0, .int .i64 0, .int .i64 0, .int .i64 0, .int .i64 0, .string ⟨#[]⟩, .int .i64 0, .int .i64 0]], []⟩ 8 (by kernel_rfl) (by kernel_rfl) (by kernel_rfl) (by kernel_rfl)) ?_
  intro W base args ds gs before hval0 hW _ hsz0 _
  have hval : ∀ (j : Nat) t v, Tryz.f6.params[j]? = some t → args[j]? = some v → Value.okWide Tryz.prog W .any base t v := hval0
  have hW' := hW
  obtain ⟨p, q, hA0, hV, rfl, _, _⟩ := hW
  have hA : DataW.TrodAll enc Tryz.prog W 0 (fun _ => true) true Tryz.f6.params.toList args.toList ds p := hA0
  have hp6 : Tryz.f6.params = #[9, 9, 64] := by kernel_rfl
  rw [hp6] at hA hval
  obtain ⟨v0, v1, v2, d0, d1, d2, p0, p1, p2, rfl, rfl, rfl, h0, h1, h2⟩ := trodAll_three hA
  obtain ⟨rfl, rfl⟩ := trodVars_none hV
  obtain ⟨s0, rfl⟩ := okWide_string Tryz.underlying9 (hval 0 9 v0 rfl rfl)
  obtain ⟨s1, rfl⟩ := okWide_string Tryz.underlying9 (hval 1 9 v1 rfl rfl)
  obtain ⟨a, b, c, d, e, f, s, g, i, rfl⟩ := sight_value (hval 2 64 v2 rfl rfl)
  simp only [List.append_nil] at hW'
  have r9 : Tryz.prog.readableRec 9 = true := by kernel_rfl
  have r64 : Tryz.prog.readableRec 64 = true := by kernel_rfl
  have hargs : ∀ W' : World, Below W.heap.size W W' → DataW.TrodAll enc Tryz.prog W' 0 (fun b => decide (b < W.heap.size)) true [9, 9, 64] [.string s0, .string s1, .agg #[.int .i64 a, .int .i64 b, .int .i64 c, .int .i64 d, .int .i64 e, .int .i64 f, .string s, .int .i64 g, .int .i64 i]] [d0, d1, d2] (p0 ++ (p1 ++ p2)) := fun W' hn =>
    trodAll_mk3 (Below.trod laidOut r9 (of_decide_eq_true (by kernel_rfl)) h0 hn (fun y hy => hW'.lt y (by simp [hy]))) (Below.trod laidOut r9 (of_decide_eq_true (by kernel_rfl)) h1 hn (fun y hy => hW'.lt y (by simp [hy]))) (Below.trod laidOut r64 (of_decide_eq_true (by kernel_rfl)) h2 hn (fun y hy => hW'.lt y (by simp [hy])))
  have hcall := calls_of okLaw6Whole (w := W) (args := [.one (.s fun _ => s0), .one (.s fun _ => s1), .agg [.i .i64 (.sy fun _ => a), .i .i64 (.sy fun _ => b), .i .i64 (.sy fun _ => c), .i .i64 (.sy fun _ => d), .i .i64 (.sy fun _ => e), .i .i64 (.sy fun _ => f), .s fun _ => s, .i .i64 (.sy fun _ => g), .i .i64 (.sy fun _ => i)]])
    (vals := [.string s0, .string s1, .agg #[.int .i64 a, .int .i64 b, .int .i64 c, .int .i64 d, .int .i64 e, .int .i64 f, .string s, .int .i64 g, .int .i64 i]])
    ⟨⟨rfl, rfl⟩, ⟨rfl, rfl⟩, ⟨_, rfl, ⟨rfl, rfl⟩, ⟨rfl, rfl⟩, ⟨rfl, rfl⟩, ⟨rfl, rfl⟩, ⟨rfl, rfl⟩, ⟨rfl, rfl⟩, ⟨rfl, rfl⟩, ⟨rfl, rfl⟩, ⟨rfl, rfl⟩, trivial⟩, trivial⟩ trivial rfl rfl
  refine hcall.mono fun e W' ⟨v, σ', he, hr, hn⟩ => ?_
  subst he
  have hv : v = .bool true := hr.2
  subst hv
  refine ⟨_, rfl, _, _, _, [], _, [], hW', trodAll_mk1 (shut_bool Tryz.underlying4 true), hargs _ hn, rfl, hn.frame _, fun h => by cases h⟩


theorem patterns_holds : Rows.StonePatternsAsSpecifiedSaid :=
  OpenClaim.holds_of_wide 6 Tryz.f6 rfl rfl rfl rfl rfl rfl rfl ⟨rfl, rfl, rfl, rfl, rfl⟩ rfl rfl rfl rfl rfl (by as_aux_lemma => kernel_rfl) Tryz.func6 p6_closed
    (of_decide_eq_true (by as_aux_lemma => kernel_rfl)) (by unfold Func.isWrapper; first | (rw [if_pos (by decide +kernel)]; kernel_rfl) | (rw [if_neg (by decide +kernel)]; exact ⟨rfl, rfl⟩))
    (fun os started H enc _ => patterns_lifted os started H enc)

#print axioms patterns_holds
end Go.Proofs.YthgllnnlngihoaaGreat
end
