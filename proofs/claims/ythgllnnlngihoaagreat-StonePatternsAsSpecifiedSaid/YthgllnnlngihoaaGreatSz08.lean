/- through: its text. (Printed by gend1.py.); through, as its callers see it. -/
import Derived.Test.YthgllnnlngihoaaGreatSz07
section
set_option linter.unusedVariables false
set_option linter.unusedSimpArgs false
set_option maxRecDepth 100000
namespace Go.Proofs.YthgllnnlngihoaaGreat.Sx
open Go.RowKit

def thruG (same : Nat → Bool) : List (FuncId × Spec) := [(141, spOf 0), (142, spOf 1), (143, spOf 2), (138, spGap), (144, spGapH same), (175, spBoth), (176, spEmpty), (213, spFar1), (177, spAllH), (178, spSinkOn), (179, spSinkBack)]
theorem thruG_ok (same : Nat → Bool) : AllSpecs (thruG same) := ⟨okOfX, okOfY, okOfH, okGap, okGapH same, okBoth, okEmpty, okFar1, okAllH, okSinkOn, okSinkBack, trivial⟩
/-- Rows whose elements are given by a function. -/
def fRow (n : Unit → Nat) (f : Nat → SpanD) : Ob := .row .own 191 2 (.sy n 0) fun e => encS191 fun _ => f e
def updS (same : Nat → Bool) (j : Nat) (v : Bool) : Nat → Bool := fun k => if k = j then v else same k
theorem upd_self {same : Nat → Bool} {j : Nat} {v : Bool} (h : same j = v) : same = updS same j v := by
  funext k
  unfold updS
  split
  · rename_i e; rw [e, h]
  · rfl
def natI : Nat → IX
  | 0 => .lit 0
  | j + 1 => .nat (fun _ => j) 1
def backI : Nat → IX
  | 0 => .lit (-1)
  | k + 1 => .nat (fun _ => k) 0

def thruPost (pos : Nat) (st pl sk : Int) (ss : List SightD) (cs : List Int) (x : Exit) (s : St) : Prop := isRet x ∧ (resultI tab Tryz.f140.results.toList s.S.get (lget s.M)).1 ∧ ∃ js, FinBy tab Tryz.f140.results.toList js s (.tup [.one (.ref 0), .one (.b (.sy fun _ => thruOk pos st pl sk ss cs))]) [s191Row .own fun _ => thruR pos st pl sk ss cs]
set_option maxHeartbeats 2000000 in
theorem thru_vc0 {st0 pl0 sk0 st pl sk : Int} {ss : List SightD} {ns : List NoteD} {cs : List Int} (hh : HabitOk st pl sk) (hl : LifeOk ss) (hk : KindsOk cs) (hn : 0 < ss.length) (hsz : ss.length ≤ 1000) (hcs : cs.length + 1 = ss.length) (same : Nat → Bool) (hsame : ∀ k, same k = eqB (cs.getD k 0) 0) (B : Nat) :
    vc (en (thruG same)) ⟨fun _ => none, B, fun _ => False, Tryz.f140.ntmps, none⟩ (fbody Tryz.f140) (start [.agg [.i .i64 (.sy fun _ => st0), .i .i64 (.sy fun _ => pl0), .i .i64 (.sy fun _ => sk0), .ref 0, .ref 1], .one (.ref 2), .one (.c (.func (.func 141) #[] #[])), .one (.ref 3)]
      [sightRow .ro ss, noteRow .ro ns, sightRow .ro ss, .clo (.func 138) [] [.ref 4, .ref 6], .box false 0 [.ref 5], intRow .ro cs, .box false 0 [.i .i64 (.sy fun _ => st), .i .i64 (.sy fun _ => pl), .i .i64 (.sy fun _ => sk), .top, .top]]) (thruPost 0 st pl sk ss cs) := by
  cbv
  simp only [implies_true, and_true, true_and, IX.v_lit, IX.v_nat, IX.v_sy, BX.v_lit, BX.v_sy, NX.v_lit, NX.v_sy, addN, in_true, eq_self, Nat.succ_eq_add_one, intD_eq, encInt_le, encText_le, encSpan_le, encPair_le, encBox_le, encNote_le, encSight_le, cell_i_le, Nat.add_zero, Int.toNat_natCast, Nat.lt_irrefl, if_false, and_self, ncast, imp_self, in_self, in_self2, in_and, Int.cast_ofNat_Int, in_and2, ltB_t, ltB_f, leB_t, leB_f, eqB_t, eqB_f, ltNB_t, ltNB_f, leNB_t, leNB_f, eqNB_t, eqNB_f, noT, noF, Bool.and_eq_true, Bool.or_eq_true, Bool.and_eq_false_iff, Bool.or_eq_false_iff]
  refine ⟨{i : Nat // i ≤ ss.length ∧ fullTo 0 st pl sk ss cs i = true}, fun i => ⟨[(2, .lit true, .one (.c (.func (.func 141) #[] #[]))), (3, .lit true, .one (.ref 3)), (4, .lit true, .one (.ref 7)), (10, .lit true, .one (.ref 8)), (15, .lit true, .one (.ref 2)), (16, .lit true, cint .i64 (.nat (fun _ => ss.length) 0)), (17, .lit true, .one (.i .i64 (natI i.1)))], [(0, sightRow .ro ss), (1, noteRow .ro ns), (2, sightRow .ro ss), (3, .clo (.func 138) [] [.ref 4, .ref 6]), (4, .box false 0 [.ref 5]), (5, intRow .ro cs), (6, .box false 0 [.i .i64 (.sy fun _ => st), .i .i64 (.sy fun _ => pl), .i .i64 (.sy fun _ => sk), .top, .top]), (7, .box true 27 [.i .i64 (.sy fun _ => st0), .i .i64 (.sy fun _ => pl0), .i .i64 (.sy fun _ => sk0), .ref 0, .ref 1]), (8, fRow (fun _ => i.1) (fwd 0 st pl sk ss cs))], 9⟩, fun i => ss.length - i.1, ⟨0, by omega, rfl⟩, LeBy.le (pins := []) (fun i u h => by cases h) (l := [(0, .old 0), (1, .old 1), (2, .old 2), (3, .old 3), (4, .old 4), (5, .old 5), (6, .old 6), (7, .old 7), (8, .nil)]) ?_, fun i => ?_⟩
  · cbv
    simp only [implies_true, and_true, true_and, IX.v_lit, IX.v_nat, IX.v_sy, BX.v_lit, BX.v_sy, NX.v_lit, NX.v_sy, addN, in_true, eq_self, Nat.succ_eq_add_one, intD_eq, encInt_le, encText_le, encSpan_le, encPair_le, encBox_le, encNote_le, encSight_le, cell_i_le, Nat.add_zero, Int.toNat_natCast, Nat.lt_irrefl, if_false, and_self, ncast, imp_self, in_self, in_self2, in_and, Int.cast_ofNat_Int, in_and2, ltB_t, ltB_f, leB_t, leB_f, eqB_t, eqB_f, ltNB_t, ltNB_f, leNB_t, leNB_f, eqNB_t, eqNB_f, noT, noF, Bool.and_eq_true, Bool.or_eq_true, Bool.and_eq_false_iff, Bool.or_eq_false_iff]
  · obtain ⟨i, hi, hf⟩ := i
    rcases i with _ | j
    · cbv
      simp only [implies_true, and_true, true_and, IX.v_lit, IX.v_nat, IX.v_sy, BX.v_lit, BX.v_sy, NX.v_lit, NX.v_sy, addN, in_true, eq_self, Nat.succ_eq_add_one, intD_eq, encInt_le, encText_le, encSpan_le, encPair_le, encBox_le, encNote_le, encSight_le, cell_i_le, Nat.add_zero, Int.toNat_natCast, Nat.lt_irrefl, if_false, and_self, ncast, imp_self, in_self, in_self2, in_and, Int.cast_ofNat_Int, in_and2, ltB_t, ltB_f, leB_t, leB_f, eqB_t, eqB_f, ltNB_t, ltNB_f, leNB_t, leNB_f, eqNB_t, eqNB_f, noT, noF, Bool.and_eq_true, Bool.or_eq_true, Bool.and_eq_false_iff, Bool.or_eq_false_iff]
      refine ⟨fun hlt => ?_, fun hlt => by (first | omega | (simp only [ncast] at *; omega))⟩
      have hlt : 0 < ss.length := hn
      cbv
      simp only [implies_true, and_true, true_and, IX.v_lit, IX.v_nat, IX.v_sy, BX.v_lit, BX.v_sy, NX.v_lit, NX.v_sy, addN, in_true, eq_self, Nat.succ_eq_add_one, intD_eq, encInt_le, encText_le, encSpan_le, encPair_le, encBox_le, encNote_le, encSight_le, cell_i_le, Nat.add_zero, Int.toNat_natCast, Nat.lt_irrefl, if_false, and_self, ncast, imp_self, in_self, in_self2, in_and, Int.cast_ofNat_Int, in_and2, ltB_t, ltB_f, leB_t, leB_f, eqB_t, eqB_f, ltNB_t, ltNB_f, leNB_t, leNB_f, eqNB_t, eqNB_f, noT, noF, Bool.and_eq_true, Bool.or_eq_true, Bool.and_eq_false_iff, Bool.or_eq_false_iff]
      refine ⟨⟨by omega⟩, ⟨by omega⟩, fun hb => ?_, fun hb => ?_⟩
      · have hno : thruOk 0 st pl sk ss cs = false := fullTo_no hlt hb
        cbv
        refine ⟨[.nil], ?_⟩
        cbv
        simp only [implies_true, and_true, true_and, IX.v_lit, IX.v_nat, IX.v_sy, BX.v_lit, BX.v_sy, NX.v_lit, NX.v_sy, addN, in_true, eq_self, Nat.succ_eq_add_one, intD_eq, encInt_le, encText_le, encSpan_le, encPair_le, encBox_le, encNote_le, encSight_le, cell_i_le, Nat.add_zero, Int.toNat_natCast, Nat.lt_irrefl, if_false, and_self, ncast, imp_self, in_self, in_self2, in_and, Int.cast_ofNat_Int, in_and2, ltB_t, ltB_f, leB_t, leB_f, eqB_t, eqB_f, ltNB_t, ltNB_f, leNB_t, leNB_f, eqNB_t, eqNB_f, noT, noF, Bool.and_eq_true, Bool.or_eq_true, Bool.and_eq_false_iff, Bool.or_eq_false_iff]
        exact ⟨⟨by unfold thruR; rw [hno]; rfl⟩, ⟨hno⟩⟩
      · cbv
        simp only [implies_true, and_true, true_and, IX.v_lit, IX.v_nat, IX.v_sy, BX.v_lit, BX.v_sy, NX.v_lit, NX.v_sy, addN, in_true, eq_self, Nat.succ_eq_add_one, intD_eq, encInt_le, encText_le, encSpan_le, encPair_le, encBox_le, encNote_le, encSight_le, cell_i_le, Nat.add_zero, Int.toNat_natCast, Nat.lt_irrefl, if_false, and_self, ncast, imp_self, in_self, in_self2, in_and, Int.cast_ofNat_Int, in_and2, ltB_t, ltB_f, leB_t, leB_f, eqB_t, eqB_f, ltNB_t, ltNB_f, leNB_t, leNB_f, eqNB_t, eqNB_f, noT, noF, Bool.and_eq_true, Bool.or_eq_true, Bool.and_eq_false_iff, Bool.or_eq_false_iff]
        refine ⟨⟨by decide, by decide⟩, ⟨by unfold fitsK; omega⟩, ⟨1, hlt, by rw [fullTo_succ, hf]; exact decide_eq_true hb⟩, LeBy.le (pins := []) (fun i u h => by cases h) (l := [(0, .old 0), (1, .old 1), (2, .old 2), (3, .old 3), (4, .old 4), (5, .old 5), (6, .old 6), (7, .old 7), (8, .old 12)]) ?_, by show ss.length - 1 < ss.length - 0; omega⟩
        cbv
        simp only [implies_true, and_true, true_and, IX.v_lit, IX.v_nat, IX.v_sy, BX.v_lit, BX.v_sy, NX.v_lit, NX.v_sy, addN, in_true, eq_self, Nat.succ_eq_add_one, intD_eq, encInt_le, encText_le, encSpan_le, encPair_le, encBox_le, encNote_le, encSight_le, cell_i_le, Nat.add_zero, Int.toNat_natCast, Nat.lt_irrefl, if_false, and_self, ncast, imp_self, in_self, in_self2, in_and, Int.cast_ofNat_Int, in_and2, ltB_t, ltB_f, leB_t, leB_f, eqB_t, eqB_f, ltNB_t, ltNB_f, leNB_t, leNB_f, eqNB_t, eqNB_f, noT, noF, Bool.and_eq_true, Bool.or_eq_true, Bool.and_eq_false_iff, Bool.or_eq_false_iff]
        refine ⟨⟨fun e he => ?_⟩, ⟨by omega⟩⟩
        obtain rfl : e = 0 := by omega
        exact ⟨⟨trivial, ⟨rfl⟩⟩, ⟨trivial, ⟨rfl⟩⟩, trivial⟩
    · cbv
      simp only [implies_true, and_true, true_and, IX.v_lit, IX.v_nat, IX.v_sy, BX.v_lit, BX.v_sy, NX.v_lit, NX.v_sy, addN, in_true, eq_self, Nat.succ_eq_add_one, intD_eq, encInt_le, encText_le, encSpan_le, encPair_le, encBox_le, encNote_le, encSight_le, cell_i_le, Nat.add_zero, Int.toNat_natCast, Nat.lt_irrefl, if_false, and_self, ncast, imp_self, in_self, in_self2, in_and, Int.cast_ofNat_Int, in_and2, ltB_t, ltB_f, leB_t, leB_f, eqB_t, eqB_f, ltNB_t, ltNB_f, leNB_t, leNB_f, eqNB_t, eqNB_f, noT, noF, Bool.and_eq_true, Bool.or_eq_true, Bool.and_eq_false_iff, Bool.or_eq_false_iff]
      refine ⟨fun hlt => ?_, fun hlt => ?_⟩
      · have hy := years_in hl hlt
        have hmul := mul_in hh hy
        have hw := fwd_in (pos := 0) (cs := cs) hh hl j (by omega)
        have hfb := farBy_in (kd := cs.getD j 0) hh
        have f1 : fitsK .i64 ((j : Nat) : Int) := by unfold fitsK; omega
        have f2 : fitsK .i64 ((ss.getD (j + 1) sightD).year - (ss.getD j sightD).year) := by
          unfold yearAt at hy
          unfold fitsK
          omega
        cbv
        simp only [implies_true, and_true, true_and, IX.v_lit, IX.v_nat, IX.v_sy, BX.v_lit, BX.v_sy, NX.v_lit, NX.v_sy, addN, in_true, eq_self, Nat.succ_eq_add_one, intD_eq, encInt_le, encText_le, encSpan_le, encPair_le, encBox_le, encNote_le, encSight_le, cell_i_le, Nat.add_zero, Int.toNat_natCast, Nat.lt_irrefl, if_false, and_self, ncast, imp_self, in_self, in_self2, in_and, Int.cast_ofNat_Int, in_and2, ltB_t, ltB_f, leB_t, leB_f, eqB_t, eqB_f, ltNB_t, ltNB_f, leNB_t, leNB_f, eqNB_t, eqNB_f, noT, noF, Bool.and_eq_true, Bool.or_eq_true, Bool.and_eq_false_iff, Bool.or_eq_false_iff]
        simp only [in_true, eq_self, and_true, true_and, ints, texts, spans, pairs, boxs, notes, sights, seen, lget, reduceIte, Nat.reduceEqDiff, reduceCtorEq, Nat.succ_ne_self, Nat.zero_ne_one, Nat.one_ne_zero, int_row0, int_row, text_row, span_row, pair_row, box_row, note_row, sight_row]
        have hfw : fwd 0 st pl sk ss cs (j + 1) = ⟨max (ss.getD (j + 1) sightD).x0 ((fwd 0 st pl sk ss cs j).lo - farBy st pl (cs.getD j 0)), min (ss.getD (j + 1) sightD).x1 ((fwd 0 st pl sk ss cs j).hi + farBy st pl (cs.getD j 0))⟩ := by
          show bothS (spAt 0 (sightAt ss (j + 1))) (onS 0 st pl sk (kindAt cs j) (fwd 0 st pl sk ss cs j) (yearAt ss (j + 1) - yearAt ss j)) = _
          rfl
        have f3 : fitsK .i64 ((fwd 0 st pl sk ss cs j).lo - farBy st pl (cs.getD j 0)) ∧ fitsK .i64 ((fwd 0 st pl sk ss cs j).hi + farBy st pl (cs.getD j 0)) := by
          unfold spanIn inC at hw
          unfold yearAt at hmul
          unfold fitsK
          (first | omega | (simp only [ncast] at *; omega))
        refine ⟨⟨hlt⟩, ⟨hlt⟩, ⟨f1⟩, ⟨okAt_row rfl (by omega) (by omega) (hk j (by omega))⟩, ⟨f1⟩, ⟨by omega⟩, ⟨by omega⟩, ⟨hlt⟩, ⟨hlt⟩, ⟨f1⟩, ⟨by omega⟩, ⟨by omega⟩, ⟨f2⟩, ⟨f3⟩, ⟨by kernel_rfl⟩, fun hb => ?_, fun hb => ?_⟩
        · have hno : thruOk 0 st pl sk ss cs = false := fullTo_no hlt (by rw [hfw]; exact hb)
          cbv
          refine ⟨[.nil], ?_⟩
          cbv
          simp only [implies_true, and_true, true_and, IX.v_lit, IX.v_nat, IX.v_sy, BX.v_lit, BX.v_sy, NX.v_lit, NX.v_sy, addN, in_true, eq_self, Nat.succ_eq_add_one, intD_eq, encInt_le, encText_le, encSpan_le, encPair_le, encBox_le, encNote_le, encSight_le, cell_i_le, Nat.add_zero, Int.toNat_natCast, Nat.lt_irrefl, if_false, and_self, ncast, imp_self, in_self, in_self2, in_and, Int.cast_ofNat_Int, in_and2, ltB_t, ltB_f, leB_t, leB_f, eqB_t, eqB_f, ltNB_t, ltNB_f, leNB_t, leNB_f, eqNB_t, eqNB_f, noT, noF, Bool.and_eq_true, Bool.or_eq_true, Bool.and_eq_false_iff, Bool.or_eq_false_iff]
          exact ⟨⟨by unfold thruR; rw [hno]; rfl⟩, ⟨hno⟩⟩
        · cbv
          simp only [implies_true, and_true, true_and, IX.v_lit, IX.v_nat, IX.v_sy, BX.v_lit, BX.v_sy, NX.v_lit, NX.v_sy, addN, in_true, eq_self, Nat.succ_eq_add_one, intD_eq, encInt_le, encText_le, encSpan_le, encPair_le, encBox_le, encNote_le, encSight_le, cell_i_le, Nat.add_zero, Int.toNat_natCast, Nat.lt_irrefl, if_false, and_self, ncast, imp_self, in_self, in_self2, in_and, Int.cast_ofNat_Int, in_and2, ltB_t, ltB_f, leB_t, leB_f, eqB_t, eqB_f, ltNB_t, ltNB_f, leNB_t, leNB_f, eqNB_t, eqNB_f, noT, noF, Bool.and_eq_true, Bool.or_eq_true, Bool.and_eq_false_iff, Bool.or_eq_false_iff]
          try simp only [in_true, eq_self, and_true, true_and, ints, texts, spans, pairs, boxs, notes, sights, seen, lget, reduceIte, Nat.reduceEqDiff, reduceCtorEq, Nat.succ_ne_self, Nat.zero_ne_one, Nat.one_ne_zero, int_row0, int_row, text_row, span_row, pair_row, box_row, note_row, sight_row]
          refine ⟨⟨by omega, by omega⟩, ⟨nat_fits hlt (by omega)⟩, ⟨j + 1 + 1, hlt, by rw [fullTo_succ, hf, hfw]; exact decide_eq_true hb⟩, LeBy.le (pins := []) (fun i u h => by cases h) (l := [(0, .old 0), (1, .old 1), (2, .old 2), (3, .old 3), (4, .old 4), (5, .old 5), (6, .old 6), (7, .old 7), (8, .old 14)]) ?_, by show ss.length - (j + 1 + 1) < ss.length - (j + 1); omega⟩
          cbv
          simp only [implies_true, and_true, true_and, IX.v_lit, IX.v_nat, IX.v_sy, BX.v_lit, BX.v_sy, NX.v_lit, NX.v_sy, addN, in_true, eq_self, Nat.succ_eq_add_one, intD_eq, encInt_le, encText_le, encSpan_le, encPair_le, encBox_le, encNote_le, encSight_le, cell_i_le, Nat.add_zero, Int.toNat_natCast, Nat.lt_irrefl, if_false, and_self, ncast, imp_self, in_self, in_self2, in_and, Int.cast_ofNat_Int, in_and2, ltB_t, ltB_f, leB_t, leB_f, eqB_t, eqB_f, ltNB_t, ltNB_f, leNB_t, leNB_f, eqNB_t, eqNB_f, noT, noF, Bool.and_eq_true, Bool.or_eq_true, Bool.and_eq_false_iff, Bool.or_eq_false_iff]
          try simp only [in_true, eq_self, and_true, true_and, ints, texts, spans, pairs, boxs, notes, sights, seen, lget, reduceIte, Nat.reduceEqDiff, reduceCtorEq, Nat.succ_ne_self, Nat.zero_ne_one, Nat.one_ne_zero, int_row0, int_row, text_row, span_row, pair_row, box_row, note_row, sight_row]
          refine ⟨fun e he => ?_⟩
          by_cases h1 : e < j + 1
          · simp only [h1, if_true, encS191_le]
          · simp only [h1, if_false]
            obtain rfl : e = j + 1 := by omega
            rw [Nat.sub_self]
            refine ⟨⟨trivial, ⟨?_⟩⟩, ⟨trivial, ⟨?_⟩⟩, trivial⟩
            · show (fwd 0 st pl sk ss cs (j + 1)).lo = _
              rw [hfw]
              rfl
            · show (fwd 0 st pl sk ss cs (j + 1)).hi = _
              rw [hfw]
              rfl
      · have hlen : ss.length = j + 1 := by omega
        cbv
        simp only [implies_true, and_true, true_and, IX.v_lit, IX.v_nat, IX.v_sy, BX.v_lit, BX.v_sy, NX.v_lit, NX.v_sy, addN, in_true, eq_self, Nat.succ_eq_add_one, intD_eq, encInt_le, encText_le, encSpan_le, encPair_le, encBox_le, encNote_le, encSight_le, cell_i_le, Nat.add_zero, Int.toNat_natCast, Nat.lt_irrefl, if_false, and_self, ncast, imp_self, in_self, in_self2, in_and, Int.cast_ofNat_Int, in_and2, ltB_t, ltB_f, leB_t, leB_f, eqB_t, eqB_f, ltNB_t, ltNB_f, leNB_t, leNB_f, eqNB_t, eqNB_f, noT, noF, Bool.and_eq_true, Bool.or_eq_true, Bool.and_eq_false_iff, Bool.or_eq_false_iff]
        refine ⟨⟨by unfold fitsK; omega⟩, {m : Nat // m < ss.length}, fun m => ⟨[(3, .lit true, .one (.ref 3)), (4, .lit true, .one (.ref 7)), (10, .lit true, .one (.ref 8)), (14, .lit true, .one (.i .i64 (backI m.1)))], [(0, sightRow .ro ss), (1, noteRow .ro ns), (2, sightRow .ro ss), (3, .clo (.func 138) [] [.ref 4, .ref 6]), (4, .box false 0 [.ref 5]), (5, intRow .ro cs), (6, .box false 0 [.i .i64 (.sy fun _ => st), .i .i64 (.sy fun _ => pl), .i .i64 (.sy fun _ => sk), .top, .top]), (7, .box true 27 [.i .i64 (.sy fun _ => st0), .i .i64 (.sy fun _ => pl0), .i .i64 (.sy fun _ => sk0), .ref 0, .ref 1]), (8, fRow (fun _ => ss.length) (wayAt 0 st pl sk ss cs m.1))], 9⟩, fun m => m.1, ⟨j, by omega⟩, LeBy.le (pins := []) (fun i u h => by cases h) (l := [(0, .old 0), (1, .old 1), (2, .old 2), (3, .old 3), (4, .old 4), (5, .old 5), (6, .old 6), (7, .old 7), (8, .old 8)]) ?_, fun m => ?_⟩
        · have hmix : ∀ e, e < ss.length → wayAt 0 st pl sk ss cs j e = fwd 0 st pl sk ss cs e := fun e he => by
            have := mix_start (pos := 0) (st := st) (pl := pl) (sk := sk) (cs := cs) he
            rw [show ss.length - 1 = j by omega] at this
            exact this
          rcases j with _ | j
          all_goals
            cbv
            simp only [implies_true, and_true, true_and, IX.v_lit, IX.v_nat, IX.v_sy, BX.v_lit, BX.v_sy, NX.v_lit, NX.v_sy, addN, in_true, eq_self, Nat.succ_eq_add_one, intD_eq, encInt_le, encText_le, encSpan_le, encPair_le, encBox_le, encNote_le, encSight_le, cell_i_le, Nat.add_zero, Int.toNat_natCast, Nat.lt_irrefl, if_false, and_self, ncast, imp_self, in_self, in_self2, in_and, Int.cast_ofNat_Int, in_and2, ltB_t, ltB_f, leB_t, leB_f, eqB_t, eqB_f, ltNB_t, ltNB_f, leNB_t, leNB_f, eqNB_t, eqNB_f, noT, noF, Bool.and_eq_true, Bool.or_eq_true, Bool.and_eq_false_iff, Bool.or_eq_false_iff]
            refine ⟨⟨⟨hlen⟩, ⟨fun e he => ?_⟩⟩, ⟨by omega⟩⟩
            rw [hmix e (by (first | omega | (simp only [ncast] at *; omega)))]
            exact closedL_le rfl
        · obtain ⟨m, hm⟩ := m
          rcases m with _ | k
          · cbv
            simp only [implies_true, and_true, true_and, IX.v_lit, IX.v_nat, IX.v_sy, BX.v_lit, BX.v_sy, NX.v_lit, NX.v_sy, addN, in_true, eq_self, Nat.succ_eq_add_one, intD_eq, encInt_le, encText_le, encSpan_le, encPair_le, encBox_le, encNote_le, encSight_le, cell_i_le, Nat.add_zero, Int.toNat_natCast, Nat.lt_irrefl, if_false, and_self, ncast, imp_self, in_self, in_self2, in_and, Int.cast_ofNat_Int, in_and2, ltB_t, ltB_f, leB_t, leB_f, eqB_t, eqB_f, ltNB_t, ltNB_f, leNB_t, leNB_f, eqNB_t, eqNB_f, noT, noF, Bool.and_eq_true, Bool.or_eq_true, Bool.and_eq_false_iff, Bool.or_eq_false_iff]
            refine ⟨[.old 8], ?_⟩
            cbv
            simp only [implies_true, and_true, true_and, IX.v_lit, IX.v_nat, IX.v_sy, BX.v_lit, BX.v_sy, NX.v_lit, NX.v_sy, addN, in_true, eq_self, Nat.succ_eq_add_one, intD_eq, encInt_le, encText_le, encSpan_le, encPair_le, encBox_le, encNote_le, encSight_le, cell_i_le, Nat.add_zero, Int.toNat_natCast, Nat.lt_irrefl, if_false, and_self, ncast, imp_self, in_self, in_self2, in_and, Int.cast_ofNat_Int, in_and2, ltB_t, ltB_f, leB_t, leB_f, eqB_t, eqB_f, ltNB_t, ltNB_f, leNB_t, leNB_f, eqNB_t, eqNB_f, noT, noF, Bool.and_eq_true, Bool.or_eq_true, Bool.and_eq_false_iff, Bool.or_eq_false_iff]
            have hT : thruOk 0 st pl sk ss cs = true := by unfold thruOk; rw [hlen]; exact hf
            have hR : thruR 0 st pl sk ss cs = thruL 0 st pl sk ss cs := by unfold thruR; rw [hT]; rfl
            refine ⟨⟨⟨by rw [hR]; exact ln_range _ _⟩, ⟨fun e he => ?_⟩⟩, ⟨hT⟩⟩
            rw [show (fun x : Unit => (thruR 0 st pl sk ss cs).getD e s191D) = fun _ => wayAt 0 st pl sk ss cs 0 e from funext fun _ => by rw [hR, mix_end]; exact getD_range _ _ he]
            exact closedL_le rfl
          · have hwa : wayAt 0 st pl sk ss cs (k + 1) (k + 1) = thruAt 0 st pl sk ss cs (k + 1) := by unfold wayAt; rw [if_neg (by omega)]
            have hwb : wayAt 0 st pl sk ss cs (k + 1) k = fwd 0 st pl sk ss cs k := by unfold wayAt; rw [if_pos (by omega)]
            have hy := years_in hl hm
            have hmul := mul_in hh hy
            have hw := thru_in (pos := 0) (cs := cs) hh hl hm
            have hfb := farBy_in (kd := cs.getD k 0) hh
            have f1 : fitsK .i64 ((k + 1 : Nat) : Int) := by unfold fitsK; omega
            have f2 : fitsK .i64 ((ss.getD (k + 1) sightD).year - (ss.getD k sightD).year) := by
              unfold yearAt at hy
              unfold fitsK
              omega
            have f4 : fitsK .i64 (((k : Nat) : Int) - 1) := by unfold fitsK; omega
            cbv
            simp only [implies_true, and_true, true_and, IX.v_lit, IX.v_nat, IX.v_sy, BX.v_lit, BX.v_sy, NX.v_lit, NX.v_sy, addN, in_true, eq_self, Nat.succ_eq_add_one, intD_eq, encInt_le, encText_le, encSpan_le, encPair_le, encBox_le, encNote_le, encSight_le, cell_i_le, Nat.add_zero, Int.toNat_natCast, Nat.lt_irrefl, if_false, and_self, ncast, imp_self, in_self, in_self2, in_and, Int.cast_ofNat_Int, in_and2, ltB_t, ltB_f, leB_t, leB_f, eqB_t, eqB_f, ltNB_t, ltNB_f, leNB_t, leNB_f, eqNB_t, eqNB_f, noT, noF, Bool.and_eq_true, Bool.or_eq_true, Bool.and_eq_false_iff, Bool.or_eq_false_iff]
            simp only [in_true, eq_self, and_true, true_and, ints, texts, spans, pairs, boxs, notes, sights, seen, lget, reduceIte, Nat.reduceEqDiff, reduceCtorEq, Nat.succ_ne_self, Nat.zero_ne_one, Nat.one_ne_zero, int_row0, int_row, text_row, span_row, pair_row, box_row, note_row, sight_row]
            try simp only [hwa, hwb]
            have hth : thruAt 0 st pl sk ss cs k = ⟨max (fwd 0 st pl sk ss cs k).lo ((thruAt 0 st pl sk ss cs (k + 1)).lo - farBy st pl (cs.getD k 0)), min (fwd 0 st pl sk ss cs k).hi ((thruAt 0 st pl sk ss cs (k + 1)).hi + farBy st pl (cs.getD k 0))⟩ := by
              rw [mix_step hm]
              rfl
            have f3 : fitsK .i64 ((thruAt 0 st pl sk ss cs (k + 1)).lo - farBy st pl (cs.getD k 0)) ∧ fitsK .i64 ((thruAt 0 st pl sk ss cs (k + 1)).hi + farBy st pl (cs.getD k 0)) := by
              unfold spanIn inC at hw
              unfold yearAt at hmul
              unfold fitsK
              (first | omega | (simp only [ncast] at *; omega))
            refine ⟨⟨by omega⟩, ⟨by omega⟩, ⟨okAt_row rfl (by omega) (by omega) (hk k (by omega))⟩, ⟨f1⟩, ⟨hm⟩, ⟨hm⟩, ⟨f1⟩, ⟨hm⟩, ⟨hm⟩, ⟨by omega⟩, ⟨by omega⟩, ⟨f2⟩, ⟨f3⟩, ⟨by omega⟩, ⟨by omega⟩, ⟨by kernel_rfl⟩, ⟨f4⟩, ⟨k, by omega⟩, LeBy.le (pins := []) (fun i u h => by cases h) (l := [(0, .old 0), (1, .old 1), (2, .old 2), (3, .old 3), (4, .old 4), (5, .old 5), (6, .old 6), (7, .old 7), (8, .old 8)]) ?_, by show k < k + 1; omega⟩
            rcases k with _ | k
            all_goals
              cbv
              simp only [implies_true, and_true, true_and, IX.v_lit, IX.v_nat, IX.v_sy, BX.v_lit, BX.v_sy, NX.v_lit, NX.v_sy, addN, in_true, eq_self, Nat.succ_eq_add_one, intD_eq, encInt_le, encText_le, encSpan_le, encPair_le, encBox_le, encNote_le, encSight_le, cell_i_le, Nat.add_zero, Int.toNat_natCast, Nat.lt_irrefl, if_false, and_self, ncast, imp_self, in_self, in_self2, in_and, Int.cast_ofNat_Int, in_and2, ltB_t, ltB_f, leB_t, leB_f, eqB_t, eqB_f, ltNB_t, ltNB_f, leNB_t, leNB_f, eqNB_t, eqNB_f, noT, noF, Bool.and_eq_true, Bool.or_eq_true, Bool.and_eq_false_iff, Bool.or_eq_false_iff]
              refine ⟨⟨fun e he => ?_⟩, ⟨by omega⟩⟩
              first
                | (by_cases hek : e = 0
                   · subst hek
                     simp only [if_true]
                     refine ⟨⟨trivial, ⟨?_⟩⟩, ⟨trivial, ⟨?_⟩⟩, trivial⟩
                     · show (wayAt 0 st pl sk ss cs 0 0).lo = _
                       rw [mix_end, hth]
                       rfl
                     · show (wayAt 0 st pl sk ss cs 0 0).hi = _
                       rw [mix_end, hth]
                       rfl
                   · simp only [hek, if_false]
                     rw [mix_other hek]
                     exact closedL_le rfl)
                | (by_cases hek : e = k + 1
                   · subst hek
                     have hw0 : wayAt 0 st pl sk ss cs (k + 1) (k + 1) = thruAt 0 st pl sk ss cs (k + 1) := by unfold wayAt; rw [if_neg (by omega)]
                     simp only [if_true]
                     refine ⟨⟨trivial, ⟨?_⟩⟩, ⟨trivial, ⟨?_⟩⟩, trivial⟩
                     · show (wayAt 0 st pl sk ss cs (k + 1) (k + 1)).lo = _
                       rw [hw0, hth]
                       rfl
                     · show (wayAt 0 st pl sk ss cs (k + 1) (k + 1)).hi = _
                       rw [hw0, hth]
                       rfl
                   · simp only [hek, if_false]
                     rw [mix_other hek]
                     exact closedL_le rfl)
set_option maxHeartbeats 2000000 in
theorem thru_vc1 {st0 pl0 sk0 st pl sk : Int} {ss : List SightD} {ns : List NoteD} {cs : List Int} (hh : HabitOk st pl sk) (hl : LifeOk ss) (hk : KindsOk cs) (hn : 0 < ss.length) (hsz : ss.length ≤ 1000) (hcs : cs.length + 1 = ss.length) (same : Nat → Bool) (hsame : ∀ k, same k = eqB (cs.getD k 0) 0) (B : Nat) :
    vc (en (thruG same)) ⟨fun _ => none, B, fun _ => False, Tryz.f140.ntmps, none⟩ (fbody Tryz.f140) (start [.agg [.i .i64 (.sy fun _ => st0), .i .i64 (.sy fun _ => pl0), .i .i64 (.sy fun _ => sk0), .ref 0, .ref 1], .one (.ref 2), .one (.c (.func (.func 142) #[] #[])), .one (.ref 3)]
      [sightRow .ro ss, noteRow .ro ns, sightRow .ro ss, .clo (.func 138) [] [.ref 4, .ref 6], .box false 0 [.ref 5], intRow .ro cs, .box false 0 [.i .i64 (.sy fun _ => st), .i .i64 (.sy fun _ => pl), .i .i64 (.sy fun _ => sk), .top, .top]]) (thruPost 1 st pl sk ss cs) := by
  cbv
  simp only [implies_true, and_true, true_and, IX.v_lit, IX.v_nat, IX.v_sy, BX.v_lit, BX.v_sy, NX.v_lit, NX.v_sy, addN, in_true, eq_self, Nat.succ_eq_add_one, intD_eq, encInt_le, encText_le, encSpan_le, encPair_le, encBox_le, encNote_le, encSight_le, cell_i_le, Nat.add_zero, Int.toNat_natCast, Nat.lt_irrefl, if_false, and_self, ncast, imp_self, in_self, in_self2, in_and, Int.cast_ofNat_Int, in_and2, ltB_t, ltB_f, leB_t, leB_f, eqB_t, eqB_f, ltNB_t, ltNB_f, leNB_t, leNB_f, eqNB_t, eqNB_f, noT, noF, Bool.and_eq_true, Bool.or_eq_true, Bool.and_eq_false_iff, Bool.or_eq_false_iff]
  refine ⟨{i : Nat // i ≤ ss.length ∧ fullTo 1 st pl sk ss cs i = true}, fun i => ⟨[(2, .lit true, .one (.c (.func (.func 142) #[] #[]))), (3, .lit true, .one (.ref 3)), (4, .lit true, .one (.ref 7)), (10, .lit true, .one (.ref 8)), (15, .lit true, .one (.ref 2)), (16, .lit true, cint .i64 (.nat (fun _ => ss.length) 0)), (17, .lit true, .one (.i .i64 (natI i.1)))], [(0, sightRow .ro ss), (1, noteRow .ro ns), (2, sightRow .ro ss), (3, .clo (.func 138) [] [.ref 4, .ref 6]), (4, .box false 0 [.ref 5]), (5, intRow .ro cs), (6, .box false 0 [.i .i64 (.sy fun _ => st), .i .i64 (.sy fun _ => pl), .i .i64 (.sy fun _ => sk), .top, .top]), (7, .box true 27 [.i .i64 (.sy fun _ => st0), .i .i64 (.sy fun _ => pl0), .i .i64 (.sy fun _ => sk0), .ref 0, .ref 1]), (8, fRow (fun _ => i.1) (fwd 1 st pl sk ss cs))], 9⟩, fun i => ss.length - i.1, ⟨0, by omega, rfl⟩, LeBy.le (pins := []) (fun i u h => by cases h) (l := [(0, .old 0), (1, .old 1), (2, .old 2), (3, .old 3), (4, .old 4), (5, .old 5), (6, .old 6), (7, .old 7), (8, .nil)]) ?_, fun i => ?_⟩
  · cbv
    simp only [implies_true, and_true, true_and, IX.v_lit, IX.v_nat, IX.v_sy, BX.v_lit, BX.v_sy, NX.v_lit, NX.v_sy, addN, in_true, eq_self, Nat.succ_eq_add_one, intD_eq, encInt_le, encText_le, encSpan_le, encPair_le, encBox_le, encNote_le, encSight_le, cell_i_le, Nat.add_zero, Int.toNat_natCast, Nat.lt_irrefl, if_false, and_self, ncast, imp_self, in_self, in_self2, in_and, Int.cast_ofNat_Int, in_and2, ltB_t, ltB_f, leB_t, leB_f, eqB_t, eqB_f, ltNB_t, ltNB_f, leNB_t, leNB_f, eqNB_t, eqNB_f, noT, noF, Bool.and_eq_true, Bool.or_eq_true, Bool.and_eq_false_iff, Bool.or_eq_false_iff]
  · obtain ⟨i, hi, hf⟩ := i
    rcases i with _ | j
    · cbv
      simp only [implies_true, and_true, true_and, IX.v_lit, IX.v_nat, IX.v_sy, BX.v_lit, BX.v_sy, NX.v_lit, NX.v_sy, addN, in_true, eq_self, Nat.succ_eq_add_one, intD_eq, encInt_le, encText_le, encSpan_le, encPair_le, encBox_le, encNote_le, encSight_le, cell_i_le, Nat.add_zero, Int.toNat_natCast, Nat.lt_irrefl, if_false, and_self, ncast, imp_self, in_self, in_self2, in_and, Int.cast_ofNat_Int, in_and2, ltB_t, ltB_f, leB_t, leB_f, eqB_t, eqB_f, ltNB_t, ltNB_f, leNB_t, leNB_f, eqNB_t, eqNB_f, noT, noF, Bool.and_eq_true, Bool.or_eq_true, Bool.and_eq_false_iff, Bool.or_eq_false_iff]
      refine ⟨fun hlt => ?_, fun hlt => by (first | omega | (simp only [ncast] at *; omega))⟩
      have hlt : 0 < ss.length := hn
      cbv
      simp only [implies_true, and_true, true_and, IX.v_lit, IX.v_nat, IX.v_sy, BX.v_lit, BX.v_sy, NX.v_lit, NX.v_sy, addN, in_true, eq_self, Nat.succ_eq_add_one, intD_eq, encInt_le, encText_le, encSpan_le, encPair_le, encBox_le, encNote_le, encSight_le, cell_i_le, Nat.add_zero, Int.toNat_natCast, Nat.lt_irrefl, if_false, and_self, ncast, imp_self, in_self, in_self2, in_and, Int.cast_ofNat_Int, in_and2, ltB_t, ltB_f, leB_t, leB_f, eqB_t, eqB_f, ltNB_t, ltNB_f, leNB_t, leNB_f, eqNB_t, eqNB_f, noT, noF, Bool.and_eq_true, Bool.or_eq_true, Bool.and_eq_false_iff, Bool.or_eq_false_iff]
      refine ⟨⟨by omega⟩, ⟨by omega⟩, fun hb => ?_, fun hb => ?_⟩
      · have hno : thruOk 1 st pl sk ss cs = false := fullTo_no hlt hb
        cbv
        refine ⟨[.nil], ?_⟩
        cbv
        simp only [implies_true, and_true, true_and, IX.v_lit, IX.v_nat, IX.v_sy, BX.v_lit, BX.v_sy, NX.v_lit, NX.v_sy, addN, in_true, eq_self, Nat.succ_eq_add_one, intD_eq, encInt_le, encText_le, encSpan_le, encPair_le, encBox_le, encNote_le, encSight_le, cell_i_le, Nat.add_zero, Int.toNat_natCast, Nat.lt_irrefl, if_false, and_self, ncast, imp_self, in_self, in_self2, in_and, Int.cast_ofNat_Int, in_and2, ltB_t, ltB_f, leB_t, leB_f, eqB_t, eqB_f, ltNB_t, ltNB_f, leNB_t, leNB_f, eqNB_t, eqNB_f, noT, noF, Bool.and_eq_true, Bool.or_eq_true, Bool.and_eq_false_iff, Bool.or_eq_false_iff]
        exact ⟨⟨by unfold thruR; rw [hno]; rfl⟩, ⟨hno⟩⟩
      · cbv
        simp only [implies_true, and_true, true_and, IX.v_lit, IX.v_nat, IX.v_sy, BX.v_lit, BX.v_sy, NX.v_lit, NX.v_sy, addN, in_true, eq_self, Nat.succ_eq_add_one, intD_eq, encInt_le, encText_le, encSpan_le, encPair_le, encBox_le, encNote_le, encSight_le, cell_i_le, Nat.add_zero, Int.toNat_natCast, Nat.lt_irrefl, if_false, and_self, ncast, imp_self, in_self, in_self2, in_and, Int.cast_ofNat_Int, in_and2, ltB_t, ltB_f, leB_t, leB_f, eqB_t, eqB_f, ltNB_t, ltNB_f, leNB_t, leNB_f, eqNB_t, eqNB_f, noT, noF, Bool.and_eq_true, Bool.or_eq_true, Bool.and_eq_false_iff, Bool.or_eq_false_iff]
        refine ⟨⟨by decide, by decide⟩, ⟨by unfold fitsK; omega⟩, ⟨1, hlt, by rw [fullTo_succ, hf]; exact decide_eq_true hb⟩, LeBy.le (pins := []) (fun i u h => by cases h) (l := [(0, .old 0), (1, .old 1), (2, .old 2), (3, .old 3), (4, .old 4), (5, .old 5), (6, .old 6), (7, .old 7), (8, .old 12)]) ?_, by show ss.length - 1 < ss.length - 0; omega⟩
        cbv
        simp only [implies_true, and_true, true_and, IX.v_lit, IX.v_nat, IX.v_sy, BX.v_lit, BX.v_sy, NX.v_lit, NX.v_sy, addN, in_true, eq_self, Nat.succ_eq_add_one, intD_eq, encInt_le, encText_le, encSpan_le, encPair_le, encBox_le, encNote_le, encSight_le, cell_i_le, Nat.add_zero, Int.toNat_natCast, Nat.lt_irrefl, if_false, and_self, ncast, imp_self, in_self, in_self2, in_and, Int.cast_ofNat_Int, in_and2, ltB_t, ltB_f, leB_t, leB_f, eqB_t, eqB_f, ltNB_t, ltNB_f, leNB_t, leNB_f, eqNB_t, eqNB_f, noT, noF, Bool.and_eq_true, Bool.or_eq_true, Bool.and_eq_false_iff, Bool.or_eq_false_iff]
        refine ⟨⟨fun e he => ?_⟩, ⟨by omega⟩⟩
        obtain rfl : e = 0 := by omega
        exact ⟨⟨trivial, ⟨rfl⟩⟩, ⟨trivial, ⟨rfl⟩⟩, trivial⟩
    · cbv
      simp only [implies_true, and_true, true_and, IX.v_lit, IX.v_nat, IX.v_sy, BX.v_lit, BX.v_sy, NX.v_lit, NX.v_sy, addN, in_true, eq_self, Nat.succ_eq_add_one, intD_eq, encInt_le, encText_le, encSpan_le, encPair_le, encBox_le, encNote_le, encSight_le, cell_i_le, Nat.add_zero, Int.toNat_natCast, Nat.lt_irrefl, if_false, and_self, ncast, imp_self, in_self, in_self2, in_and, Int.cast_ofNat_Int, in_and2, ltB_t, ltB_f, leB_t, leB_f, eqB_t, eqB_f, ltNB_t, ltNB_f, leNB_t, leNB_f, eqNB_t, eqNB_f, noT, noF, Bool.and_eq_true, Bool.or_eq_true, Bool.and_eq_false_iff, Bool.or_eq_false_iff]
      refine ⟨fun hlt => ?_, fun hlt => ?_⟩
      · have hy := years_in hl hlt
        have hmul := mul_in hh hy
        have hw := fwd_in (pos := 1) (cs := cs) hh hl j (by omega)
        have hfb := farBy_in (kd := cs.getD j 0) hh
        have f1 : fitsK .i64 ((j : Nat) : Int) := by unfold fitsK; omega
        have f2 : fitsK .i64 ((ss.getD (j + 1) sightD).year - (ss.getD j sightD).year) := by
          unfold yearAt at hy
          unfold fitsK
          omega
        cbv
        simp only [implies_true, and_true, true_and, IX.v_lit, IX.v_nat, IX.v_sy, BX.v_lit, BX.v_sy, NX.v_lit, NX.v_sy, addN, in_true, eq_self, Nat.succ_eq_add_one, intD_eq, encInt_le, encText_le, encSpan_le, encPair_le, encBox_le, encNote_le, encSight_le, cell_i_le, Nat.add_zero, Int.toNat_natCast, Nat.lt_irrefl, if_false, and_self, ncast, imp_self, in_self, in_self2, in_and, Int.cast_ofNat_Int, in_and2, ltB_t, ltB_f, leB_t, leB_f, eqB_t, eqB_f, ltNB_t, ltNB_f, leNB_t, leNB_f, eqNB_t, eqNB_f, noT, noF, Bool.and_eq_true, Bool.or_eq_true, Bool.and_eq_false_iff, Bool.or_eq_false_iff]
        simp only [in_true, eq_self, and_true, true_and, ints, texts, spans, pairs, boxs, notes, sights, seen, lget, reduceIte, Nat.reduceEqDiff, reduceCtorEq, Nat.succ_ne_self, Nat.zero_ne_one, Nat.one_ne_zero, int_row0, int_row, text_row, span_row, pair_row, box_row, note_row, sight_row]
        have hfw : fwd 1 st pl sk ss cs (j + 1) = ⟨max (ss.getD (j + 1) sightD).y0 ((fwd 1 st pl sk ss cs j).lo - farBy st pl (cs.getD j 0)), min (ss.getD (j + 1) sightD).y1 ((fwd 1 st pl sk ss cs j).hi + farBy st pl (cs.getD j 0))⟩ := by
          show bothS (spAt 1 (sightAt ss (j + 1))) (onS 1 st pl sk (kindAt cs j) (fwd 1 st pl sk ss cs j) (yearAt ss (j + 1) - yearAt ss j)) = _
          rfl
        have f3 : fitsK .i64 ((fwd 1 st pl sk ss cs j).lo - farBy st pl (cs.getD j 0)) ∧ fitsK .i64 ((fwd 1 st pl sk ss cs j).hi + farBy st pl (cs.getD j 0)) := by
          unfold spanIn inC at hw
          unfold yearAt at hmul
          unfold fitsK
          (first | omega | (simp only [ncast] at *; omega))
        refine ⟨⟨hlt⟩, ⟨hlt⟩, ⟨f1⟩, ⟨okAt_row rfl (by omega) (by omega) (hk j (by omega))⟩, ⟨f1⟩, ⟨by omega⟩, ⟨by omega⟩, ⟨hlt⟩, ⟨hlt⟩, ⟨f1⟩, ⟨by omega⟩, ⟨by omega⟩, ⟨f2⟩, ⟨f3⟩, ⟨by kernel_rfl⟩, fun hb => ?_, fun hb => ?_⟩
        · have hno : thruOk 1 st pl sk ss cs = false := fullTo_no hlt (by rw [hfw]; exact hb)
          cbv
          refine ⟨[.nil], ?_⟩
          cbv
          simp only [implies_true, and_true, true_and, IX.v_lit, IX.v_nat, IX.v_sy, BX.v_lit, BX.v_sy, NX.v_lit, NX.v_sy, addN, in_true, eq_self, Nat.succ_eq_add_one, intD_eq, encInt_le, encText_le, encSpan_le, encPair_le, encBox_le, encNote_le, encSight_le, cell_i_le, Nat.add_zero, Int.toNat_natCast, Nat.lt_irrefl, if_false, and_self, ncast, imp_self, in_self, in_self2, in_and, Int.cast_ofNat_Int, in_and2, ltB_t, ltB_f, leB_t, leB_f, eqB_t, eqB_f, ltNB_t, ltNB_f, leNB_t, leNB_f, eqNB_t, eqNB_f, noT, noF, Bool.and_eq_true, Bool.or_eq_true, Bool.and_eq_false_iff, Bool.or_eq_false_iff]
          exact ⟨⟨by unfold thruR; rw [hno]; rfl⟩, ⟨hno⟩⟩
        · cbv
          simp only [implies_true, and_true, true_and, IX.v_lit, IX.v_nat, IX.v_sy, BX.v_lit, BX.v_sy, NX.v_lit, NX.v_sy, addN, in_true, eq_self, Nat.succ_eq_add_one, intD_eq, encInt_le, encText_le, encSpan_le, encPair_le, encBox_le, encNote_le, encSight_le, cell_i_le, Nat.add_zero, Int.toNat_natCast, Nat.lt_irrefl, if_false, and_self, ncast, imp_self, in_self, in_self2, in_and, Int.cast_ofNat_Int, in_and2, ltB_t, ltB_f, leB_t, leB_f, eqB_t, eqB_f, ltNB_t, ltNB_f, leNB_t, leNB_f, eqNB_t, eqNB_f, noT, noF, Bool.and_eq_true, Bool.or_eq_true, Bool.and_eq_false_iff, Bool.or_eq_false_iff]
          try simp only [in_true, eq_self, and_true, true_and, ints, texts, spans, pairs, boxs, notes, sights, seen, lget, reduceIte, Nat.reduceEqDiff, reduceCtorEq, Nat.succ_ne_self, Nat.zero_ne_one, Nat.one_ne_zero, int_row0, int_row, text_row, span_row, pair_row, box_row, note_row, sight_row]
          refine ⟨⟨by omega, by omega⟩, ⟨nat_fits hlt (by omega)⟩, ⟨j + 1 + 1, hlt, by rw [fullTo_succ, hf, hfw]; exact decide_eq_true hb⟩, LeBy.le (pins := []) (fun i u h => by cases h) (l := [(0, .old 0), (1, .old 1), (2, .old 2), (3, .old 3), (4, .old 4), (5, .old 5), (6, .old 6), (7, .old 7), (8, .old 14)]) ?_, by show ss.length - (j + 1 + 1) < ss.length - (j + 1); omega⟩
          cbv
          simp only [implies_true, and_true, true_and, IX.v_lit, IX.v_nat, IX.v_sy, BX.v_lit, BX.v_sy, NX.v_lit, NX.v_sy, addN, in_true, eq_self, Nat.succ_eq_add_one, intD_eq, encInt_le, encText_le, encSpan_le, encPair_le, encBox_le, encNote_le, encSight_le, cell_i_le, Nat.add_zero, Int.toNat_natCast, Nat.lt_irrefl, if_false, and_self, ncast, imp_self, in_self, in_self2, in_and, Int.cast_ofNat_Int, in_and2, ltB_t, ltB_f, leB_t, leB_f, eqB_t, eqB_f, ltNB_t, ltNB_f, leNB_t, leNB_f, eqNB_t, eqNB_f, noT, noF, Bool.and_eq_true, Bool.or_eq_true, Bool.and_eq_false_iff, Bool.or_eq_false_iff]
          try simp only [in_true, eq_self, and_true, true_and, ints, texts, spans, pairs, boxs, notes, sights, seen, lget, reduceIte, Nat.reduceEqDiff, reduceCtorEq, Nat.succ_ne_self, Nat.zero_ne_one, Nat.one_ne_zero, int_row0, int_row, text_row, span_row, pair_row, box_row, note_row, sight_row]
          refine ⟨fun e he => ?_⟩
          by_cases h1 : e < j + 1
          · simp only [h1, if_true, encS191_le]
          · simp only [h1, if_false]
            obtain rfl : e = j + 1 := by omega
            rw [Nat.sub_self]
            refine ⟨⟨trivial, ⟨?_⟩⟩, ⟨trivial, ⟨?_⟩⟩, trivial⟩
            · show (fwd 1 st pl sk ss cs (j + 1)).lo = _
              rw [hfw]
              rfl
            · show (fwd 1 st pl sk ss cs (j + 1)).hi = _
              rw [hfw]
              rfl
      · have hlen : ss.length = j + 1 := by omega
        cbv
        simp only [implies_true, and_true, true_and, IX.v_lit, IX.v_nat, IX.v_sy, BX.v_lit, BX.v_sy, NX.v_lit, NX.v_sy, addN, in_true, eq_self, Nat.succ_eq_add_one, intD_eq, encInt_le, encText_le, encSpan_le, encPair_le, encBox_le, encNote_le, encSight_le, cell_i_le, Nat.add_zero, Int.toNat_natCast, Nat.lt_irrefl, if_false, and_self, ncast, imp_self, in_self, in_self2, in_and, Int.cast_ofNat_Int, in_and2, ltB_t, ltB_f, leB_t, leB_f, eqB_t, eqB_f, ltNB_t, ltNB_f, leNB_t, leNB_f, eqNB_t, eqNB_f, noT, noF, Bool.and_eq_true, Bool.or_eq_true, Bool.and_eq_false_iff, Bool.or_eq_false_iff]
        refine ⟨⟨by unfold fitsK; omega⟩, {m : Nat // m < ss.length}, fun m => ⟨[(3, .lit true, .one (.ref 3)), (4, .lit true, .one (.ref 7)), (10, .lit true, .one (.ref 8)), (14, .lit true, .one (.i .i64 (backI m.1)))], [(0, sightRow .ro ss), (1, noteRow .ro ns), (2, sightRow .ro ss), (3, .clo (.func 138) [] [.ref 4, .ref 6]), (4, .box false 0 [.ref 5]), (5, intRow .ro cs), (6, .box false 0 [.i .i64 (.sy fun _ => st), .i .i64 (.sy fun _ => pl), .i .i64 (.sy fun _ => sk), .top, .top]), (7, .box true 27 [.i .i64 (.sy fun _ => st0), .i .i64 (.sy fun _ => pl0), .i .i64 (.sy fun _ => sk0), .ref 0, .ref 1]), (8, fRow (fun _ => ss.length) (wayAt 1 st pl sk ss cs m.1))], 9⟩, fun m => m.1, ⟨j, by omega⟩, LeBy.le (pins := []) (fun i u h => by cases h) (l := [(0, .old 0), (1, .old 1), (2, .old 2), (3, .old 3), (4, .old 4), (5, .old 5), (6, .old 6), (7, .old 7), (8, .old 8)]) ?_, fun m => ?_⟩
        · have hmix : ∀ e, e < ss.length → wayAt 1 st pl sk ss cs j e = fwd 1 st pl sk ss cs e := fun e he => by
            have := mix_start (pos := 1) (st := st) (pl := pl) (sk := sk) (cs := cs) he
            rw [show ss.length - 1 = j by omega] at this
            exact this
          rcases j with _ | j
          all_goals
            cbv
            simp only [implies_true, and_true, true_and, IX.v_lit, IX.v_nat, IX.v_sy, BX.v_lit, BX.v_sy, NX.v_lit, NX.v_sy, addN, in_true, eq_self, Nat.succ_eq_add_one, intD_eq, encInt_le, encText_le, encSpan_le, encPair_le, encBox_le, encNote_le, encSight_le, cell_i_le, Nat.add_zero, Int.toNat_natCast, Nat.lt_irrefl, if_false, and_self, ncast, imp_self, in_self, in_self2, in_and, Int.cast_ofNat_Int, in_and2, ltB_t, ltB_f, leB_t, leB_f, eqB_t, eqB_f, ltNB_t, ltNB_f, leNB_t, leNB_f, eqNB_t, eqNB_f, noT, noF, Bool.and_eq_true, Bool.or_eq_true, Bool.and_eq_false_iff, Bool.or_eq_false_iff]
            refine ⟨⟨⟨hlen⟩, ⟨fun e he => ?_⟩⟩, ⟨by omega⟩⟩
            rw [hmix e (by (first | omega | (simp only [ncast] at *; omega)))]
            exact closedL_le rfl
        · obtain ⟨m, hm⟩ := m
          rcases m with _ | k
          · cbv
            simp only [implies_true, and_true, true_and, IX.v_lit, IX.v_nat, IX.v_sy, BX.v_lit, BX.v_sy, NX.v_lit, NX.v_sy, addN, in_true, eq_self, Nat.succ_eq_add_one, intD_eq, encInt_le, encText_le, encSpan_le, encPair_le, encBox_le, encNote_le, encSight_le, cell_i_le, Nat.add_zero, Int.toNat_natCast, Nat.lt_irrefl, if_false, and_self, ncast, imp_self, in_self, in_self2, in_and, Int.cast_ofNat_Int, in_and2, ltB_t, ltB_f, leB_t, leB_f, eqB_t, eqB_f, ltNB_t, ltNB_f, leNB_t, leNB_f, eqNB_t, eqNB_f, noT, noF, Bool.and_eq_true, Bool.or_eq_true, Bool.and_eq_false_iff, Bool.or_eq_false_iff]
            refine ⟨[.old 8], ?_⟩
            cbv
            simp only [implies_true, and_true, true_and, IX.v_lit, IX.v_nat, IX.v_sy, BX.v_lit, BX.v_sy, NX.v_lit, NX.v_sy, addN, in_true, eq_self, Nat.succ_eq_add_one, intD_eq, encInt_le, encText_le, encSpan_le, encPair_le, encBox_le, encNote_le, encSight_le, cell_i_le, Nat.add_zero, Int.toNat_natCast, Nat.lt_irrefl, if_false, and_self, ncast, imp_self, in_self, in_self2, in_and, Int.cast_ofNat_Int, in_and2, ltB_t, ltB_f, leB_t, leB_f, eqB_t, eqB_f, ltNB_t, ltNB_f, leNB_t, leNB_f, eqNB_t, eqNB_f, noT, noF, Bool.and_eq_true, Bool.or_eq_true, Bool.and_eq_false_iff, Bool.or_eq_false_iff]
            have hT : thruOk 1 st pl sk ss cs = true := by unfold thruOk; rw [hlen]; exact hf
            have hR : thruR 1 st pl sk ss cs = thruL 1 st pl sk ss cs := by unfold thruR; rw [hT]; rfl
            refine ⟨⟨⟨by rw [hR]; exact ln_range _ _⟩, ⟨fun e he => ?_⟩⟩, ⟨hT⟩⟩
            rw [show (fun x : Unit => (thruR 1 st pl sk ss cs).getD e s191D) = fun _ => wayAt 1 st pl sk ss cs 0 e from funext fun _ => by rw [hR, mix_end]; exact getD_range _ _ he]
            exact closedL_le rfl
          · have hwa : wayAt 1 st pl sk ss cs (k + 1) (k + 1) = thruAt 1 st pl sk ss cs (k + 1) := by unfold wayAt; rw [if_neg (by omega)]
            have hwb : wayAt 1 st pl sk ss cs (k + 1) k = fwd 1 st pl sk ss cs k := by unfold wayAt; rw [if_pos (by omega)]
            have hy := years_in hl hm
            have hmul := mul_in hh hy
            have hw := thru_in (pos := 1) (cs := cs) hh hl hm
            have hfb := farBy_in (kd := cs.getD k 0) hh
            have f1 : fitsK .i64 ((k + 1 : Nat) : Int) := by unfold fitsK; omega
            have f2 : fitsK .i64 ((ss.getD (k + 1) sightD).year - (ss.getD k sightD).year) := by
              unfold yearAt at hy
              unfold fitsK
              omega
            have f4 : fitsK .i64 (((k : Nat) : Int) - 1) := by unfold fitsK; omega
            cbv
            simp only [implies_true, and_true, true_and, IX.v_lit, IX.v_nat, IX.v_sy, BX.v_lit, BX.v_sy, NX.v_lit, NX.v_sy, addN, in_true, eq_self, Nat.succ_eq_add_one, intD_eq, encInt_le, encText_le, encSpan_le, encPair_le, encBox_le, encNote_le, encSight_le, cell_i_le, Nat.add_zero, Int.toNat_natCast, Nat.lt_irrefl, if_false, and_self, ncast, imp_self, in_self, in_self2, in_and, Int.cast_ofNat_Int, in_and2, ltB_t, ltB_f, leB_t, leB_f, eqB_t, eqB_f, ltNB_t, ltNB_f, leNB_t, leNB_f, eqNB_t, eqNB_f, noT, noF, Bool.and_eq_true, Bool.or_eq_true, Bool.and_eq_false_iff, Bool.or_eq_false_iff]
            simp only [in_true, eq_self, and_true, true_and, ints, texts, spans, pairs, boxs, notes, sights, seen, lget, reduceIte, Nat.reduceEqDiff, reduceCtorEq, Nat.succ_ne_self, Nat.zero_ne_one, Nat.one_ne_zero, int_row0, int_row, text_row, span_row, pair_row, box_row, note_row, sight_row]
            try simp only [hwa, hwb]
            have hth : thruAt 1 st pl sk ss cs k = ⟨max (fwd 1 st pl sk ss cs k).lo ((thruAt 1 st pl sk ss cs (k + 1)).lo - farBy st pl (cs.getD k 0)), min (fwd 1 st pl sk ss cs k).hi ((thruAt 1 st pl sk ss cs (k + 1)).hi + farBy st pl (cs.getD k 0))⟩ := by
              rw [mix_step hm]
              rfl
            have f3 : fitsK .i64 ((thruAt 1 st pl sk ss cs (k + 1)).lo - farBy st pl (cs.getD k 0)) ∧ fitsK .i64 ((thruAt 1 st pl sk ss cs (k + 1)).hi + farBy st pl (cs.getD k 0)) := by
              unfold spanIn inC at hw
              unfold yearAt at hmul
              unfold fitsK
              (first | omega | (simp only [ncast] at *; omega))
            refine ⟨⟨by omega⟩, ⟨by omega⟩, ⟨okAt_row rfl (by omega) (by omega) (hk k (by omega))⟩, ⟨f1⟩, ⟨hm⟩, ⟨hm⟩, ⟨f1⟩, ⟨hm⟩, ⟨hm⟩, ⟨by omega⟩, ⟨by omega⟩, ⟨f2⟩, ⟨f3⟩, ⟨by omega⟩, ⟨by omega⟩, ⟨by kernel_rfl⟩, ⟨f4⟩, ⟨k, by omega⟩, LeBy.le (pins := []) (fun i u h => by cases h) (l := [(0, .old 0), (1, .old 1), (2, .old 2), (3, .old 3), (4, .old 4), (5, .old 5), (6, .old 6), (7, .old 7), (8, .old 8)]) ?_, by show k < k + 1; omega⟩
            rcases k with _ | k
            all_goals
              cbv
              simp only [implies_true, and_true, true_and, IX.v_lit, IX.v_nat, IX.v_sy, BX.v_lit, BX.v_sy, NX.v_lit, NX.v_sy, addN, in_true, eq_self, Nat.succ_eq_add_one, intD_eq, encInt_le, encText_le, encSpan_le, encPair_le, encBox_le, encNote_le, encSight_le, cell_i_le, Nat.add_zero, Int.toNat_natCast, Nat.lt_irrefl, if_false, and_self, ncast, imp_self, in_self, in_self2, in_and, Int.cast_ofNat_Int, in_and2, ltB_t, ltB_f, leB_t, leB_f, eqB_t, eqB_f, ltNB_t, ltNB_f, leNB_t, leNB_f, eqNB_t, eqNB_f, noT, noF, Bool.and_eq_true, Bool.or_eq_true, Bool.and_eq_false_iff, Bool.or_eq_false_iff]
              refine ⟨⟨fun e he => ?_⟩, ⟨by omega⟩⟩
              first
                | (by_cases hek : e = 0
                   · subst hek
                     simp only [if_true]
                     refine ⟨⟨trivial, ⟨?_⟩⟩, ⟨trivial, ⟨?_⟩⟩, trivial⟩
                     · show (wayAt 1 st pl sk ss cs 0 0).lo = _
                       rw [mix_end, hth]
                       rfl
                     · show (wayAt 1 st pl sk ss cs 0 0).hi = _
                       rw [mix_end, hth]
                       rfl
                   · simp only [hek, if_false]
                     rw [mix_other hek]
                     exact closedL_le rfl)
                | (by_cases hek : e = k + 1
                   · subst hek
                     have hw0 : wayAt 1 st pl sk ss cs (k + 1) (k + 1) = thruAt 1 st pl sk ss cs (k + 1) := by unfold wayAt; rw [if_neg (by omega)]
                     simp only [if_true]
                     refine ⟨⟨trivial, ⟨?_⟩⟩, ⟨trivial, ⟨?_⟩⟩, trivial⟩
                     · show (wayAt 1 st pl sk ss cs (k + 1) (k + 1)).lo = _
                       rw [hw0, hth]
                       rfl
                     · show (wayAt 1 st pl sk ss cs (k + 1) (k + 1)).hi = _
                       rw [hw0, hth]
                       rfl
                   · simp only [hek, if_false]
                     rw [mix_other hek]
                     exact closedL_le rfl)
set_option maxHeartbeats 2000000 in
theorem thru_vc2 {st0 pl0 sk0 st pl sk : Int} {ss : List SightD} {ns : List NoteD} {cs : List Int} (hh : HabitOk st pl sk) (hl : LifeOk ss) (hk : KindsOk cs) (hn : 0 < ss.length) (hsz : ss.length ≤ 1000) (hcs : cs.length + 1 = ss.length) (same : Nat → Bool) (hsame : ∀ k, same k = eqB (cs.getD k 0) 0) (B : Nat) :
    vc (en (thruG same)) ⟨fun _ => none, B, fun _ => False, Tryz.f140.ntmps, none⟩ (fbody Tryz.f140) (start [.agg [.i .i64 (.sy fun _ => st0), .i .i64 (.sy fun _ => pl0), .i .i64 (.sy fun _ => sk0), .ref 0, .ref 1], .one (.ref 2), .one (.c (.func (.func 143) #[] #[])), .one (.ref 3)]
      [sightRow .ro ss, noteRow .ro ns, sightRow .ro ss, .clo (.func 144) [] [.ref 4, .ref 5], .box false 0 [.i .i64 (.sy fun _ => st), .i .i64 (.sy fun _ => pl), .i .i64 (.sy fun _ => sk), .top, .top], .box false 0 [.ref 6], intRow .ro cs]) (thruPost 2 st pl sk ss cs) := by
  cbv
  simp only [implies_true, and_true, true_and, IX.v_lit, IX.v_nat, IX.v_sy, BX.v_lit, BX.v_sy, NX.v_lit, NX.v_sy, addN, in_true, eq_self, Nat.succ_eq_add_one, intD_eq, encInt_le, encText_le, encSpan_le, encPair_le, encBox_le, encNote_le, encSight_le, cell_i_le, Nat.add_zero, Int.toNat_natCast, Nat.lt_irrefl, if_false, and_self, ncast, imp_self, in_self, in_self2, in_and, Int.cast_ofNat_Int, in_and2, ltB_t, ltB_f, leB_t, leB_f, eqB_t, eqB_f, ltNB_t, ltNB_f, leNB_t, leNB_f, eqNB_t, eqNB_f, noT, noF, Bool.and_eq_true, Bool.or_eq_true, Bool.and_eq_false_iff, Bool.or_eq_false_iff]
  refine ⟨{i : Nat // i ≤ ss.length ∧ fullTo 2 st pl sk ss cs i = true}, fun i => ⟨[(2, .lit true, .one (.c (.func (.func 143) #[] #[]))), (3, .lit true, .one (.ref 3)), (4, .lit true, .one (.ref 7)), (10, .lit true, .one (.ref 8)), (15, .lit true, .one (.ref 2)), (16, .lit true, cint .i64 (.nat (fun _ => ss.length) 0)), (17, .lit true, .one (.i .i64 (natI i.1)))], [(0, sightRow .ro ss), (1, noteRow .ro ns), (2, sightRow .ro ss), (3, .clo (.func 144) [] [.ref 4, .ref 5]), (4, .box false 0 [.i .i64 (.sy fun _ => st), .i .i64 (.sy fun _ => pl), .i .i64 (.sy fun _ => sk), .top, .top]), (5, .box false 0 [.ref 6]), (6, intRow .ro cs), (7, .box true 27 [.i .i64 (.sy fun _ => st0), .i .i64 (.sy fun _ => pl0), .i .i64 (.sy fun _ => sk0), .ref 0, .ref 1]), (8, fRow (fun _ => i.1) (fwd 2 st pl sk ss cs))], 9⟩, fun i => ss.length - i.1, ⟨0, by omega, rfl⟩, LeBy.le (pins := []) (fun i u h => by cases h) (l := [(0, .old 0), (1, .old 1), (2, .old 2), (3, .old 3), (4, .old 4), (5, .old 5), (6, .old 6), (7, .old 7), (8, .nil)]) ?_, fun i => ?_⟩
  · cbv
    simp only [implies_true, and_true, true_and, IX.v_lit, IX.v_nat, IX.v_sy, BX.v_lit, BX.v_sy, NX.v_lit, NX.v_sy, addN, in_true, eq_self, Nat.succ_eq_add_one, intD_eq, encInt_le, encText_le, encSpan_le, encPair_le, encBox_le, encNote_le, encSight_le, cell_i_le, Nat.add_zero, Int.toNat_natCast, Nat.lt_irrefl, if_false, and_self, ncast, imp_self, in_self, in_self2, in_and, Int.cast_ofNat_Int, in_and2, ltB_t, ltB_f, leB_t, leB_f, eqB_t, eqB_f, ltNB_t, ltNB_f, leNB_t, leNB_f, eqNB_t, eqNB_f, noT, noF, Bool.and_eq_true, Bool.or_eq_true, Bool.and_eq_false_iff, Bool.or_eq_false_iff]
  · obtain ⟨i, hi, hf⟩ := i
    rcases i with _ | j
    · cbv
      simp only [implies_true, and_true, true_and, IX.v_lit, IX.v_nat, IX.v_sy, BX.v_lit, BX.v_sy, NX.v_lit, NX.v_sy, addN, in_true, eq_self, Nat.succ_eq_add_one, intD_eq, encInt_le, encText_le, encSpan_le, encPair_le, encBox_le, encNote_le, encSight_le, cell_i_le, Nat.add_zero, Int.toNat_natCast, Nat.lt_irrefl, if_false, and_self, ncast, imp_self, in_self, in_self2, in_and, Int.cast_ofNat_Int, in_and2, ltB_t, ltB_f, leB_t, leB_f, eqB_t, eqB_f, ltNB_t, ltNB_f, leNB_t, leNB_f, eqNB_t, eqNB_f, noT, noF, Bool.and_eq_true, Bool.or_eq_true, Bool.and_eq_false_iff, Bool.or_eq_false_iff]
      refine ⟨fun hlt => ?_, fun hlt => by (first | omega | (simp only [ncast] at *; omega))⟩
      have hlt : 0 < ss.length := hn
      cbv
      simp only [implies_true, and_true, true_and, IX.v_lit, IX.v_nat, IX.v_sy, BX.v_lit, BX.v_sy, NX.v_lit, NX.v_sy, addN, in_true, eq_self, Nat.succ_eq_add_one, intD_eq, encInt_le, encText_le, encSpan_le, encPair_le, encBox_le, encNote_le, encSight_le, cell_i_le, Nat.add_zero, Int.toNat_natCast, Nat.lt_irrefl, if_false, and_self, ncast, imp_self, in_self, in_self2, in_and, Int.cast_ofNat_Int, in_and2, ltB_t, ltB_f, leB_t, leB_f, eqB_t, eqB_f, ltNB_t, ltNB_f, leNB_t, leNB_f, eqNB_t, eqNB_f, noT, noF, Bool.and_eq_true, Bool.or_eq_true, Bool.and_eq_false_iff, Bool.or_eq_false_iff]
      refine ⟨⟨by omega⟩, ⟨by omega⟩, fun hb => ?_, fun hb => ?_⟩
      · have hno : thruOk 2 st pl sk ss cs = false := fullTo_no hlt hb
        cbv
        refine ⟨[.nil], ?_⟩
        cbv
        simp only [implies_true, and_true, true_and, IX.v_lit, IX.v_nat, IX.v_sy, BX.v_lit, BX.v_sy, NX.v_lit, NX.v_sy, addN, in_true, eq_self, Nat.succ_eq_add_one, intD_eq, encInt_le, encText_le, encSpan_le, encPair_le, encBox_le, encNote_le, encSight_le, cell_i_le, Nat.add_zero, Int.toNat_natCast, Nat.lt_irrefl, if_false, and_self, ncast, imp_self, in_self, in_self2, in_and, Int.cast_ofNat_Int, in_and2, ltB_t, ltB_f, leB_t, leB_f, eqB_t, eqB_f, ltNB_t, ltNB_f, leNB_t, leNB_f, eqNB_t, eqNB_f, noT, noF, Bool.and_eq_true, Bool.or_eq_true, Bool.and_eq_false_iff, Bool.or_eq_false_iff]
        exact ⟨⟨by unfold thruR; rw [hno]; rfl⟩, ⟨hno⟩⟩
      · cbv
        simp only [implies_true, and_true, true_and, IX.v_lit, IX.v_nat, IX.v_sy, BX.v_lit, BX.v_sy, NX.v_lit, NX.v_sy, addN, in_true, eq_self, Nat.succ_eq_add_one, intD_eq, encInt_le, encText_le, encSpan_le, encPair_le, encBox_le, encNote_le, encSight_le, cell_i_le, Nat.add_zero, Int.toNat_natCast, Nat.lt_irrefl, if_false, and_self, ncast, imp_self, in_self, in_self2, in_and, Int.cast_ofNat_Int, in_and2, ltB_t, ltB_f, leB_t, leB_f, eqB_t, eqB_f, ltNB_t, ltNB_f, leNB_t, leNB_f, eqNB_t, eqNB_f, noT, noF, Bool.and_eq_true, Bool.or_eq_true, Bool.and_eq_false_iff, Bool.or_eq_false_iff]
        refine ⟨⟨by decide, by decide⟩, ⟨by unfold fitsK; omega⟩, ⟨1, hlt, by rw [fullTo_succ, hf]; exact decide_eq_true hb⟩, LeBy.le (pins := []) (fun i u h => by cases h) (l := [(0, .old 0), (1, .old 1), (2, .old 2), (3, .old 3), (4, .old 4), (5, .old 5), (6, .old 6), (7, .old 7), (8, .old 12)]) ?_, by show ss.length - 1 < ss.length - 0; omega⟩
        cbv
        simp only [implies_true, and_true, true_and, IX.v_lit, IX.v_nat, IX.v_sy, BX.v_lit, BX.v_sy, NX.v_lit, NX.v_sy, addN, in_true, eq_self, Nat.succ_eq_add_one, intD_eq, encInt_le, encText_le, encSpan_le, encPair_le, encBox_le, encNote_le, encSight_le, cell_i_le, Nat.add_zero, Int.toNat_natCast, Nat.lt_irrefl, if_false, and_self, ncast, imp_self, in_self, in_self2, in_and, Int.cast_ofNat_Int, in_and2, ltB_t, ltB_f, leB_t, leB_f, eqB_t, eqB_f, ltNB_t, ltNB_f, leNB_t, leNB_f, eqNB_t, eqNB_f, noT, noF, Bool.and_eq_true, Bool.or_eq_true, Bool.and_eq_false_iff, Bool.or_eq_false_iff]
        refine ⟨⟨fun e he => ?_⟩, ⟨by omega⟩⟩
        obtain rfl : e = 0 := by omega
        exact ⟨⟨trivial, ⟨rfl⟩⟩, ⟨trivial, ⟨rfl⟩⟩, trivial⟩
    · cbv
      simp only [implies_true, and_true, true_and, IX.v_lit, IX.v_nat, IX.v_sy, BX.v_lit, BX.v_sy, NX.v_lit, NX.v_sy, addN, in_true, eq_self, Nat.succ_eq_add_one, intD_eq, encInt_le, encText_le, encSpan_le, encPair_le, encBox_le, encNote_le, encSight_le, cell_i_le, Nat.add_zero, Int.toNat_natCast, Nat.lt_irrefl, if_false, and_self, ncast, imp_self, in_self, in_self2, in_and, Int.cast_ofNat_Int, in_and2, ltB_t, ltB_f, leB_t, leB_f, eqB_t, eqB_f, ltNB_t, ltNB_f, leNB_t, leNB_f, eqNB_t, eqNB_f, noT, noF, Bool.and_eq_true, Bool.or_eq_true, Bool.and_eq_false_iff, Bool.or_eq_false_iff]
      refine ⟨fun hlt => ?_, fun hlt => ?_⟩
      · have hy := years_in hl hlt
        have hmul := mul_in hh hy
        have hw := fwd_in (pos := 2) (cs := cs) hh hl j (by omega)
        have hfb := farBy_in (kd := cs.getD j 0) hh
        have f1 : fitsK .i64 ((j : Nat) : Int) := by unfold fitsK; omega
        have f2 : fitsK .i64 ((ss.getD (j + 1) sightD).year - (ss.getD j sightD).year) := by
          unfold yearAt at hy
          unfold fitsK
          omega
        cases hkd : same j with
        | true =>
          have hkd0 : cs.getD j 0 = 0 := by have := hsame j; rw [hkd] at this; exact of_decide_eq_true this.symm
          have hs2 : ∀ x, updS same j true x = eqB (cs.getD x 0) 0 := by rw [← upd_self hkd]; exact hsame
          rw [show same = updS same j true from upd_self hkd]
          cbv
          simp only [implies_true, and_true, true_and, IX.v_lit, IX.v_nat, IX.v_sy, BX.v_lit, BX.v_sy, NX.v_lit, NX.v_sy, addN, in_true, eq_self, Nat.succ_eq_add_one, intD_eq, encInt_le, encText_le, encSpan_le, encPair_le, encBox_le, encNote_le, encSight_le, cell_i_le, Nat.add_zero, Int.toNat_natCast, Nat.lt_irrefl, if_false, and_self, ncast, imp_self, in_self, in_self2, in_and, Int.cast_ofNat_Int, in_and2, ltB_t, ltB_f, leB_t, leB_f, eqB_t, eqB_f, ltNB_t, ltNB_f, leNB_t, leNB_f, eqNB_t, eqNB_f, noT, noF, Bool.and_eq_true, Bool.or_eq_true, Bool.and_eq_false_iff, Bool.or_eq_false_iff]
          simp only [in_true, eq_self, and_true, true_and, ints, texts, spans, pairs, boxs, notes, sights, seen, lget, reduceIte, Nat.reduceEqDiff, reduceCtorEq, Nat.succ_ne_self, Nat.zero_ne_one, Nat.one_ne_zero, int_row0, int_row, text_row, span_row, pair_row, box_row, note_row, sight_row]
          have hfw : fwd 2 st pl sk ss cs (j + 1) = ⟨max (ss.getD (j + 1) sightD).lo ((fwd 2 st pl sk ss cs j).lo - sk * ((ss.getD (j + 1) sightD).year - (ss.getD j sightD).year)), min (ss.getD (j + 1) sightD).hi (fwd 2 st pl sk ss cs j).hi⟩ := by
            show bothS (spAt 2 (sightAt ss (j + 1))) (onS 2 st pl sk (kindAt cs j) (fwd 2 st pl sk ss cs j) (yearAt ss (j + 1) - yearAt ss j)) = _
            unfold onS kindAt; rw [if_pos hkd0]; rfl
          have f3 : fitsK .i64 (sk * ((ss.getD (j + 1) sightD).year - (ss.getD j sightD).year)) ∧ fitsK .i64 ((fwd 2 st pl sk ss cs j).lo - sk * ((ss.getD (j + 1) sightD).year - (ss.getD j sightD).year)) := by
            unfold spanIn inC at hw
            unfold yearAt at hmul
            unfold fitsK
            (first | omega | (simp only [ncast] at *; omega))
          refine ⟨⟨hlt⟩, ⟨hlt⟩, ⟨f1⟩, ⟨okAt_row rfl (by omega) (by omega) (hk j (by omega)), hs2 j⟩, ⟨f1⟩, ⟨by omega⟩, ⟨by omega⟩, ⟨hlt⟩, ⟨hlt⟩, ⟨f1⟩, ⟨by omega⟩, ⟨by omega⟩, ⟨f2⟩, ⟨f3⟩, ⟨by kernel_rfl⟩, fun hb => ?_, fun hb => ?_⟩
          · have hno : thruOk 2 st pl sk ss cs = false := fullTo_no hlt (by rw [hfw]; exact hb)
            cbv
            refine ⟨[.nil], ?_⟩
            cbv
            simp only [implies_true, and_true, true_and, IX.v_lit, IX.v_nat, IX.v_sy, BX.v_lit, BX.v_sy, NX.v_lit, NX.v_sy, addN, in_true, eq_self, Nat.succ_eq_add_one, intD_eq, encInt_le, encText_le, encSpan_le, encPair_le, encBox_le, encNote_le, encSight_le, cell_i_le, Nat.add_zero, Int.toNat_natCast, Nat.lt_irrefl, if_false, and_self, ncast, imp_self, in_self, in_self2, in_and, Int.cast_ofNat_Int, in_and2, ltB_t, ltB_f, leB_t, leB_f, eqB_t, eqB_f, ltNB_t, ltNB_f, leNB_t, leNB_f, eqNB_t, eqNB_f, noT, noF, Bool.and_eq_true, Bool.or_eq_true, Bool.and_eq_false_iff, Bool.or_eq_false_iff]
            exact ⟨⟨by unfold thruR; rw [hno]; rfl⟩, ⟨hno⟩⟩
          · cbv
            simp only [implies_true, and_true, true_and, IX.v_lit, IX.v_nat, IX.v_sy, BX.v_lit, BX.v_sy, NX.v_lit, NX.v_sy, addN, in_true, eq_self, Nat.succ_eq_add_one, intD_eq, encInt_le, encText_le, encSpan_le, encPair_le, encBox_le, encNote_le, encSight_le, cell_i_le, Nat.add_zero, Int.toNat_natCast, Nat.lt_irrefl, if_false, and_self, ncast, imp_self, in_self, in_self2, in_and, Int.cast_ofNat_Int, in_and2, ltB_t, ltB_f, leB_t, leB_f, eqB_t, eqB_f, ltNB_t, ltNB_f, leNB_t, leNB_f, eqNB_t, eqNB_f, noT, noF, Bool.and_eq_true, Bool.or_eq_true, Bool.and_eq_false_iff, Bool.or_eq_false_iff]
            try simp only [in_true, eq_self, and_true, true_and, ints, texts, spans, pairs, boxs, notes, sights, seen, lget, reduceIte, Nat.reduceEqDiff, reduceCtorEq, Nat.succ_ne_self, Nat.zero_ne_one, Nat.one_ne_zero, int_row0, int_row, text_row, span_row, pair_row, box_row, note_row, sight_row]
            refine ⟨⟨by omega, by omega⟩, ⟨nat_fits hlt (by omega)⟩, ⟨j + 1 + 1, hlt, by rw [fullTo_succ, hf, hfw]; exact decide_eq_true hb⟩, LeBy.le (pins := []) (fun i u h => by cases h) (l := [(0, .old 0), (1, .old 1), (2, .old 2), (3, .old 3), (4, .old 4), (5, .old 5), (6, .old 6), (7, .old 7), (8, .old 15)]) ?_, by show ss.length - (j + 1 + 1) < ss.length - (j + 1); omega⟩
            cbv
            simp only [implies_true, and_true, true_and, IX.v_lit, IX.v_nat, IX.v_sy, BX.v_lit, BX.v_sy, NX.v_lit, NX.v_sy, addN, in_true, eq_self, Nat.succ_eq_add_one, intD_eq, encInt_le, encText_le, encSpan_le, encPair_le, encBox_le, encNote_le, encSight_le, cell_i_le, Nat.add_zero, Int.toNat_natCast, Nat.lt_irrefl, if_false, and_self, ncast, imp_self, in_self, in_self2, in_and, Int.cast_ofNat_Int, in_and2, ltB_t, ltB_f, leB_t, leB_f, eqB_t, eqB_f, ltNB_t, ltNB_f, leNB_t, leNB_f, eqNB_t, eqNB_f, noT, noF, Bool.and_eq_true, Bool.or_eq_true, Bool.and_eq_false_iff, Bool.or_eq_false_iff]
            try simp only [in_true, eq_self, and_true, true_and, ints, texts, spans, pairs, boxs, notes, sights, seen, lget, reduceIte, Nat.reduceEqDiff, reduceCtorEq, Nat.succ_ne_self, Nat.zero_ne_one, Nat.one_ne_zero, int_row0, int_row, text_row, span_row, pair_row, box_row, note_row, sight_row]
            refine ⟨fun e he => ?_⟩
            by_cases h1 : e < j + 1
            · simp only [h1, if_true, encS191_le]
            · simp only [h1, if_false]
              obtain rfl : e = j + 1 := by omega
              rw [Nat.sub_self]
              refine ⟨⟨trivial, ⟨?_⟩⟩, ⟨trivial, ⟨?_⟩⟩, trivial⟩
              · show (fwd 2 st pl sk ss cs (j + 1)).lo = _
                rw [hfw]
                rfl
              · show (fwd 2 st pl sk ss cs (j + 1)).hi = _
                rw [hfw]
                rfl
        | false =>
          have hkd0 : ¬ cs.getD j 0 = 0 := by have := hsame j; rw [hkd] at this; exact of_decide_eq_false this.symm
          have hs2 : ∀ x, updS same j false x = eqB (cs.getD x 0) 0 := by rw [← upd_self hkd]; exact hsame
          rw [show same = updS same j false from upd_self hkd]
          cbv
          simp only [implies_true, and_true, true_and, IX.v_lit, IX.v_nat, IX.v_sy, BX.v_lit, BX.v_sy, NX.v_lit, NX.v_sy, addN, in_true, eq_self, Nat.succ_eq_add_one, intD_eq, encInt_le, encText_le, encSpan_le, encPair_le, encBox_le, encNote_le, encSight_le, cell_i_le, Nat.add_zero, Int.toNat_natCast, Nat.lt_irrefl, if_false, and_self, ncast, imp_self, in_self, in_self2, in_and, Int.cast_ofNat_Int, in_and2, ltB_t, ltB_f, leB_t, leB_f, eqB_t, eqB_f, ltNB_t, ltNB_f, leNB_t, leNB_f, eqNB_t, eqNB_f, noT, noF, Bool.and_eq_true, Bool.or_eq_true, Bool.and_eq_false_iff, Bool.or_eq_false_iff]
          simp only [in_true, eq_self, and_true, true_and, ints, texts, spans, pairs, boxs, notes, sights, seen, lget, reduceIte, Nat.reduceEqDiff, reduceCtorEq, Nat.succ_ne_self, Nat.zero_ne_one, Nat.one_ne_zero, int_row0, int_row, text_row, span_row, pair_row, box_row, note_row, sight_row]
          have hfw : fwd 2 st pl sk ss cs (j + 1) = ⟨max (ss.getD (j + 1) sightD).lo 0, min (ss.getD (j + 1) sightD).hi 100⟩ := by
            show bothS (spAt 2 (sightAt ss (j + 1))) (onS 2 st pl sk (kindAt cs j) (fwd 2 st pl sk ss cs j) (yearAt ss (j + 1) - yearAt ss j)) = _
            unfold onS kindAt; rw [if_neg hkd0]; rfl
          refine ⟨⟨hlt⟩, ⟨hlt⟩, ⟨f1⟩, ⟨okAt_row rfl (by omega) (by omega) (hk j (by omega)), hs2 j⟩, ⟨f1⟩, ⟨by omega⟩, ⟨by omega⟩, ⟨hlt⟩, ⟨hlt⟩, ⟨f1⟩, ⟨by omega⟩, ⟨by omega⟩, ⟨f2⟩, ⟨by kernel_rfl⟩, fun hb => ?_, fun hb => ?_⟩
          · have hno : thruOk 2 st pl sk ss cs = false := fullTo_no hlt (by rw [hfw]; exact hb)
            cbv
            refine ⟨[.nil], ?_⟩
            cbv
            simp only [implies_true, and_true, true_and, IX.v_lit, IX.v_nat, IX.v_sy, BX.v_lit, BX.v_sy, NX.v_lit, NX.v_sy, addN, in_true, eq_self, Nat.succ_eq_add_one, intD_eq, encInt_le, encText_le, encSpan_le, encPair_le, encBox_le, encNote_le, encSight_le, cell_i_le, Nat.add_zero, Int.toNat_natCast, Nat.lt_irrefl, if_false, and_self, ncast, imp_self, in_self, in_self2, in_and, Int.cast_ofNat_Int, in_and2, ltB_t, ltB_f, leB_t, leB_f, eqB_t, eqB_f, ltNB_t, ltNB_f, leNB_t, leNB_f, eqNB_t, eqNB_f, noT, noF, Bool.and_eq_true, Bool.or_eq_true, Bool.and_eq_false_iff, Bool.or_eq_false_iff]
            exact ⟨⟨by unfold thruR; rw [hno]; rfl⟩, ⟨hno⟩⟩
          · cbv
            simp only [implies_true, and_true, true_and, IX.v_lit, IX.v_nat, IX.v_sy, BX.v_lit, BX.v_sy, NX.v_lit, NX.v_sy, addN, in_true, eq_self, Nat.succ_eq_add_one, intD_eq, encInt_le, encText_le, encSpan_le, encPair_le, encBox_le, encNote_le, encSight_le, cell_i_le, Nat.add_zero, Int.toNat_natCast, Nat.lt_irrefl, if_false, and_self, ncast, imp_self, in_self, in_self2, in_and, Int.cast_ofNat_Int, in_and2, ltB_t, ltB_f, leB_t, leB_f, eqB_t, eqB_f, ltNB_t, ltNB_f, leNB_t, leNB_f, eqNB_t, eqNB_f, noT, noF, Bool.and_eq_true, Bool.or_eq_true, Bool.and_eq_false_iff, Bool.or_eq_false_iff]
            try simp only [in_true, eq_self, and_true, true_and, ints, texts, spans, pairs, boxs, notes, sights, seen, lget, reduceIte, Nat.reduceEqDiff, reduceCtorEq, Nat.succ_ne_self, Nat.zero_ne_one, Nat.one_ne_zero, int_row0, int_row, text_row, span_row, pair_row, box_row, note_row, sight_row]
            refine ⟨⟨by omega, by omega⟩, ⟨nat_fits hlt (by omega)⟩, ⟨j + 1 + 1, hlt, by rw [fullTo_succ, hf, hfw]; exact decide_eq_true hb⟩, LeBy.le (pins := []) (fun i u h => by cases h) (l := [(0, .old 0), (1, .old 1), (2, .old 2), (3, .old 3), (4, .old 4), (5, .old 5), (6, .old 6), (7, .old 7), (8, .old 12)]) ?_, by show ss.length - (j + 1 + 1) < ss.length - (j + 1); omega⟩
            cbv
            simp only [implies_true, and_true, true_and, IX.v_lit, IX.v_nat, IX.v_sy, BX.v_lit, BX.v_sy, NX.v_lit, NX.v_sy, addN, in_true, eq_self, Nat.succ_eq_add_one, intD_eq, encInt_le, encText_le, encSpan_le, encPair_le, encBox_le, encNote_le, encSight_le, cell_i_le, Nat.add_zero, Int.toNat_natCast, Nat.lt_irrefl, if_false, and_self, ncast, imp_self, in_self, in_self2, in_and, Int.cast_ofNat_Int, in_and2, ltB_t, ltB_f, leB_t, leB_f, eqB_t, eqB_f, ltNB_t, ltNB_f, leNB_t, leNB_f, eqNB_t, eqNB_f, noT, noF, Bool.and_eq_true, Bool.or_eq_true, Bool.and_eq_false_iff, Bool.or_eq_false_iff]
            try simp only [in_true, eq_self, and_true, true_and, ints, texts, spans, pairs, boxs, notes, sights, seen, lget, reduceIte, Nat.reduceEqDiff, reduceCtorEq, Nat.succ_ne_self, Nat.zero_ne_one, Nat.one_ne_zero, int_row0, int_row, text_row, span_row, pair_row, box_row, note_row, sight_row]
            refine ⟨fun e he => ?_⟩
            by_cases h1 : e < j + 1
            · simp only [h1, if_true, encS191_le]
            · simp only [h1, if_false]
              obtain rfl : e = j + 1 := by omega
              rw [Nat.sub_self]
              refine ⟨⟨trivial, ⟨?_⟩⟩, ⟨trivial, ⟨?_⟩⟩, trivial⟩
              · show (fwd 2 st pl sk ss cs (j + 1)).lo = _
                rw [hfw]
                rfl
              · show (fwd 2 st pl sk ss cs (j + 1)).hi = _
                rw [hfw]
                rfl
      · have hlen : ss.length = j + 1 := by omega
        cbv
        simp only [implies_true, and_true, true_and, IX.v_lit, IX.v_nat, IX.v_sy, BX.v_lit, BX.v_sy, NX.v_lit, NX.v_sy, addN, in_true, eq_self, Nat.succ_eq_add_one, intD_eq, encInt_le, encText_le, encSpan_le, encPair_le, encBox_le, encNote_le, encSight_le, cell_i_le, Nat.add_zero, Int.toNat_natCast, Nat.lt_irrefl, if_false, and_self, ncast, imp_self, in_self, in_self2, in_and, Int.cast_ofNat_Int, in_and2, ltB_t, ltB_f, leB_t, leB_f, eqB_t, eqB_f, ltNB_t, ltNB_f, leNB_t, leNB_f, eqNB_t, eqNB_f, noT, noF, Bool.and_eq_true, Bool.or_eq_true, Bool.and_eq_false_iff, Bool.or_eq_false_iff]
        refine ⟨⟨by unfold fitsK; omega⟩, {m : Nat // m < ss.length}, fun m => ⟨[(3, .lit true, .one (.ref 3)), (4, .lit true, .one (.ref 7)), (10, .lit true, .one (.ref 8)), (14, .lit true, .one (.i .i64 (backI m.1)))], [(0, sightRow .ro ss), (1, noteRow .ro ns), (2, sightRow .ro ss), (3, .clo (.func 144) [] [.ref 4, .ref 5]), (4, .box false 0 [.i .i64 (.sy fun _ => st), .i .i64 (.sy fun _ => pl), .i .i64 (.sy fun _ => sk), .top, .top]), (5, .box false 0 [.ref 6]), (6, intRow .ro cs), (7, .box true 27 [.i .i64 (.sy fun _ => st0), .i .i64 (.sy fun _ => pl0), .i .i64 (.sy fun _ => sk0), .ref 0, .ref 1]), (8, fRow (fun _ => ss.length) (wayAt 2 st pl sk ss cs m.1))], 9⟩, fun m => m.1, ⟨j, by omega⟩, LeBy.le (pins := []) (fun i u h => by cases h) (l := [(0, .old 0), (1, .old 1), (2, .old 2), (3, .old 3), (4, .old 4), (5, .old 5), (6, .old 6), (7, .old 7), (8, .old 8)]) ?_, fun m => ?_⟩
        · have hmix : ∀ e, e < ss.length → wayAt 2 st pl sk ss cs j e = fwd 2 st pl sk ss cs e := fun e he => by
            have := mix_start (pos := 2) (st := st) (pl := pl) (sk := sk) (cs := cs) he
            rw [show ss.length - 1 = j by omega] at this
            exact this
          rcases j with _ | j
          all_goals
            cbv
            simp only [implies_true, and_true, true_and, IX.v_lit, IX.v_nat, IX.v_sy, BX.v_lit, BX.v_sy, NX.v_lit, NX.v_sy, addN, in_true, eq_self, Nat.succ_eq_add_one, intD_eq, encInt_le, encText_le, encSpan_le, encPair_le, encBox_le, encNote_le, encSight_le, cell_i_le, Nat.add_zero, Int.toNat_natCast, Nat.lt_irrefl, if_false, and_self, ncast, imp_self, in_self, in_self2, in_and, Int.cast_ofNat_Int, in_and2, ltB_t, ltB_f, leB_t, leB_f, eqB_t, eqB_f, ltNB_t, ltNB_f, leNB_t, leNB_f, eqNB_t, eqNB_f, noT, noF, Bool.and_eq_true, Bool.or_eq_true, Bool.and_eq_false_iff, Bool.or_eq_false_iff]
            refine ⟨⟨⟨hlen⟩, ⟨fun e he => ?_⟩⟩, ⟨by omega⟩⟩
            rw [hmix e (by (first | omega | (simp only [ncast] at *; omega)))]
            exact closedL_le rfl
        · obtain ⟨m, hm⟩ := m
          rcases m with _ | k
          · cbv
            simp only [implies_true, and_true, true_and, IX.v_lit, IX.v_nat, IX.v_sy, BX.v_lit, BX.v_sy, NX.v_lit, NX.v_sy, addN, in_true, eq_self, Nat.succ_eq_add_one, intD_eq, encInt_le, encText_le, encSpan_le, encPair_le, encBox_le, encNote_le, encSight_le, cell_i_le, Nat.add_zero, Int.toNat_natCast, Nat.lt_irrefl, if_false, and_self, ncast, imp_self, in_self, in_self2, in_and, Int.cast_ofNat_Int, in_and2, ltB_t, ltB_f, leB_t, leB_f, eqB_t, eqB_f, ltNB_t, ltNB_f, leNB_t, leNB_f, eqNB_t, eqNB_f, noT, noF, Bool.and_eq_true, Bool.or_eq_true, Bool.and_eq_false_iff, Bool.or_eq_false_iff]
            refine ⟨[.old 8], ?_⟩
            cbv
            simp only [implies_true, and_true, true_and, IX.v_lit, IX.v_nat, IX.v_sy, BX.v_lit, BX.v_sy, NX.v_lit, NX.v_sy, addN, in_true, eq_self, Nat.succ_eq_add_one, intD_eq, encInt_le, encText_le, encSpan_le, encPair_le, encBox_le, encNote_le, encSight_le, cell_i_le, Nat.add_zero, Int.toNat_natCast, Nat.lt_irrefl, if_false, and_self, ncast, imp_self, in_self, in_self2, in_and, Int.cast_ofNat_Int, in_and2, ltB_t, ltB_f, leB_t, leB_f, eqB_t, eqB_f, ltNB_t, ltNB_f, leNB_t, leNB_f, eqNB_t, eqNB_f, noT, noF, Bool.and_eq_true, Bool.or_eq_true, Bool.and_eq_false_iff, Bool.or_eq_false_iff]
            have hT : thruOk 2 st pl sk ss cs = true := by unfold thruOk; rw [hlen]; exact hf
            have hR : thruR 2 st pl sk ss cs = thruL 2 st pl sk ss cs := by unfold thruR; rw [hT]; rfl
            refine ⟨⟨⟨by rw [hR]; exact ln_range _ _⟩, ⟨fun e he => ?_⟩⟩, ⟨hT⟩⟩
            rw [show (fun x : Unit => (thruR 2 st pl sk ss cs).getD e s191D) = fun _ => wayAt 2 st pl sk ss cs 0 e from funext fun _ => by rw [hR, mix_end]; exact getD_range _ _ he]
            exact closedL_le rfl
          · have hwa : wayAt 2 st pl sk ss cs (k + 1) (k + 1) = thruAt 2 st pl sk ss cs (k + 1) := by unfold wayAt; rw [if_neg (by omega)]
            have hwb : wayAt 2 st pl sk ss cs (k + 1) k = fwd 2 st pl sk ss cs k := by unfold wayAt; rw [if_pos (by omega)]
            have hy := years_in hl hm
            have hmul := mul_in hh hy
            have hw := thru_in (pos := 2) (cs := cs) hh hl hm
            have hfb := farBy_in (kd := cs.getD k 0) hh
            have f1 : fitsK .i64 ((k + 1 : Nat) : Int) := by unfold fitsK; omega
            have f2 : fitsK .i64 ((ss.getD (k + 1) sightD).year - (ss.getD k sightD).year) := by
              unfold yearAt at hy
              unfold fitsK
              omega
            have f4 : fitsK .i64 (((k : Nat) : Int) - 1) := by unfold fitsK; omega
            cases hkd : same k with
            | true =>
              have hkd0 : cs.getD k 0 = 0 := by have := hsame k; rw [hkd] at this; exact of_decide_eq_true this.symm
              have hs2 : ∀ x, updS same k true x = eqB (cs.getD x 0) 0 := by rw [← upd_self hkd]; exact hsame
              rw [show same = updS same k true from upd_self hkd]
              cbv
              simp only [implies_true, and_true, true_and, IX.v_lit, IX.v_nat, IX.v_sy, BX.v_lit, BX.v_sy, NX.v_lit, NX.v_sy, addN, in_true, eq_self, Nat.succ_eq_add_one, intD_eq, encInt_le, encText_le, encSpan_le, encPair_le, encBox_le, encNote_le, encSight_le, cell_i_le, Nat.add_zero, Int.toNat_natCast, Nat.lt_irrefl, if_false, and_self, ncast, imp_self, in_self, in_self2, in_and, Int.cast_ofNat_Int, in_and2, ltB_t, ltB_f, leB_t, leB_f, eqB_t, eqB_f, ltNB_t, ltNB_f, leNB_t, leNB_f, eqNB_t, eqNB_f, noT, noF, Bool.and_eq_true, Bool.or_eq_true, Bool.and_eq_false_iff, Bool.or_eq_false_iff]
              simp only [in_true, eq_self, and_true, true_and, ints, texts, spans, pairs, boxs, notes, sights, seen, lget, reduceIte, Nat.reduceEqDiff, reduceCtorEq, Nat.succ_ne_self, Nat.zero_ne_one, Nat.one_ne_zero, int_row0, int_row, text_row, span_row, pair_row, box_row, note_row, sight_row]
              try simp only [hwa, hwb]
              have hth : thruAt 2 st pl sk ss cs k = ⟨max (fwd 2 st pl sk ss cs k).lo (thruAt 2 st pl sk ss cs (k + 1)).lo, min (fwd 2 st pl sk ss cs k).hi ((thruAt 2 st pl sk ss cs (k + 1)).hi + sk * ((ss.getD (k + 1) sightD).year - (ss.getD k sightD).year))⟩ := by
                rw [mix_step hm]
                unfold backS kindAt; rw [if_pos hkd0]; rfl
              have f3 : fitsK .i64 (sk * ((ss.getD (k + 1) sightD).year - (ss.getD k sightD).year)) ∧ fitsK .i64 ((thruAt 2 st pl sk ss cs (k + 1)).hi + sk * ((ss.getD (k + 1) sightD).year - (ss.getD k sightD).year)) := by
                unfold spanIn inC at hw
                unfold yearAt at hmul
                unfold fitsK
                (first | omega | (simp only [ncast] at *; omega))
              refine ⟨⟨by omega⟩, ⟨by omega⟩, ⟨okAt_row rfl (by omega) (by omega) (hk k (by omega)), hs2 k⟩, ⟨f1⟩, ⟨hm⟩, ⟨hm⟩, ⟨f1⟩, ⟨hm⟩, ⟨hm⟩, ⟨by omega⟩, ⟨by omega⟩, ⟨f2⟩, ⟨f3⟩, ⟨by omega⟩, ⟨by omega⟩, ⟨by kernel_rfl⟩, ⟨f4⟩, ⟨k, by omega⟩, LeBy.le (pins := []) (fun i u h => by cases h) (l := [(0, .old 0), (1, .old 1), (2, .old 2), (3, .old 3), (4, .old 4), (5, .old 5), (6, .old 6), (7, .old 7), (8, .old 8)]) ?_, by show k < k + 1; omega⟩
              rcases k with _ | k
              all_goals
                cbv
                simp only [implies_true, and_true, true_and, IX.v_lit, IX.v_nat, IX.v_sy, BX.v_lit, BX.v_sy, NX.v_lit, NX.v_sy, addN, in_true, eq_self, Nat.succ_eq_add_one, intD_eq, encInt_le, encText_le, encSpan_le, encPair_le, encBox_le, encNote_le, encSight_le, cell_i_le, Nat.add_zero, Int.toNat_natCast, Nat.lt_irrefl, if_false, and_self, ncast, imp_self, in_self, in_self2, in_and, Int.cast_ofNat_Int, in_and2, ltB_t, ltB_f, leB_t, leB_f, eqB_t, eqB_f, ltNB_t, ltNB_f, leNB_t, leNB_f, eqNB_t, eqNB_f, noT, noF, Bool.and_eq_true, Bool.or_eq_true, Bool.and_eq_false_iff, Bool.or_eq_false_iff]
                refine ⟨⟨fun e he => ?_⟩, ⟨by omega⟩⟩
                first
                  | (by_cases hek : e = 0
                     · subst hek
                       simp only [if_true]
                       refine ⟨⟨trivial, ⟨?_⟩⟩, ⟨trivial, ⟨?_⟩⟩, trivial⟩
                       · show (wayAt 2 st pl sk ss cs 0 0).lo = _
                         rw [mix_end, hth]
                         rfl
                       · show (wayAt 2 st pl sk ss cs 0 0).hi = _
                         rw [mix_end, hth]
                         rfl
                     · simp only [hek, if_false]
                       rw [mix_other hek]
                       exact closedL_le rfl)
                  | (by_cases hek : e = k + 1
                     · subst hek
                       have hw0 : wayAt 2 st pl sk ss cs (k + 1) (k + 1) = thruAt 2 st pl sk ss cs (k + 1) := by unfold wayAt; rw [if_neg (by omega)]
                       simp only [if_true]
                       refine ⟨⟨trivial, ⟨?_⟩⟩, ⟨trivial, ⟨?_⟩⟩, trivial⟩
                       · show (wayAt 2 st pl sk ss cs (k + 1) (k + 1)).lo = _
                         rw [hw0, hth]
                         rfl
                       · show (wayAt 2 st pl sk ss cs (k + 1) (k + 1)).hi = _
                         rw [hw0, hth]
                         rfl
                     · simp only [hek, if_false]
                       rw [mix_other hek]
                       exact closedL_le rfl)
            | false =>
              have hkd0 : ¬ cs.getD k 0 = 0 := by have := hsame k; rw [hkd] at this; exact of_decide_eq_false this.symm
              have hs2 : ∀ x, updS same k false x = eqB (cs.getD x 0) 0 := by rw [← upd_self hkd]; exact hsame
              rw [show same = updS same k false from upd_self hkd]
              cbv
              simp only [implies_true, and_true, true_and, IX.v_lit, IX.v_nat, IX.v_sy, BX.v_lit, BX.v_sy, NX.v_lit, NX.v_sy, addN, in_true, eq_self, Nat.succ_eq_add_one, intD_eq, encInt_le, encText_le, encSpan_le, encPair_le, encBox_le, encNote_le, encSight_le, cell_i_le, Nat.add_zero, Int.toNat_natCast, Nat.lt_irrefl, if_false, and_self, ncast, imp_self, in_self, in_self2, in_and, Int.cast_ofNat_Int, in_and2, ltB_t, ltB_f, leB_t, leB_f, eqB_t, eqB_f, ltNB_t, ltNB_f, leNB_t, leNB_f, eqNB_t, eqNB_f, noT, noF, Bool.and_eq_true, Bool.or_eq_true, Bool.and_eq_false_iff, Bool.or_eq_false_iff]
              simp only [in_true, eq_self, and_true, true_and, ints, texts, spans, pairs, boxs, notes, sights, seen, lget, reduceIte, Nat.reduceEqDiff, reduceCtorEq, Nat.succ_ne_self, Nat.zero_ne_one, Nat.one_ne_zero, int_row0, int_row, text_row, span_row, pair_row, box_row, note_row, sight_row]
              try simp only [hwa, hwb]
              have hth : thruAt 2 st pl sk ss cs k = ⟨max (fwd 2 st pl sk ss cs k).lo 0, min (fwd 2 st pl sk ss cs k).hi 100⟩ := by
                rw [mix_step hm]
                unfold backS kindAt; rw [if_neg hkd0]; rfl
              refine ⟨⟨by omega⟩, ⟨by omega⟩, ⟨okAt_row rfl (by omega) (by omega) (hk k (by omega)), hs2 k⟩, ⟨f1⟩, ⟨hm⟩, ⟨hm⟩, ⟨f1⟩, ⟨hm⟩, ⟨hm⟩, ⟨by omega⟩, ⟨by omega⟩, ⟨f2⟩, ⟨by omega⟩, ⟨by omega⟩, ⟨by kernel_rfl⟩, ⟨f4⟩, ⟨k, by omega⟩, LeBy.le (pins := []) (fun i u h => by cases h) (l := [(0, .old 0), (1, .old 1), (2, .old 2), (3, .old 3), (4, .old 4), (5, .old 5), (6, .old 6), (7, .old 7), (8, .old 8)]) ?_, by show k < k + 1; omega⟩
              rcases k with _ | k
              all_goals
                cbv
                simp only [implies_true, and_true, true_and, IX.v_lit, IX.v_nat, IX.v_sy, BX.v_lit, BX.v_sy, NX.v_lit, NX.v_sy, addN, in_true, eq_self, Nat.succ_eq_add_one, intD_eq, encInt_le, encText_le, encSpan_le, encPair_le, encBox_le, encNote_le, encSight_le, cell_i_le, Nat.add_zero, Int.toNat_natCast, Nat.lt_irrefl, if_false, and_self, ncast, imp_self, in_self, in_self2, in_and, Int.cast_ofNat_Int, in_and2, ltB_t, ltB_f, leB_t, leB_f, eqB_t, eqB_f, ltNB_t, ltNB_f, leNB_t, leNB_f, eqNB_t, eqNB_f, noT, noF, Bool.and_eq_true, Bool.or_eq_true, Bool.and_eq_false_iff, Bool.or_eq_false_iff]
                refine ⟨⟨fun e he => ?_⟩, ⟨by omega⟩⟩
                first
                  | (by_cases hek : e = 0
                     · subst hek
                       simp only [if_true]
                       refine ⟨⟨trivial, ⟨?_⟩⟩, ⟨trivial, ⟨?_⟩⟩, trivial⟩
                       · show (wayAt 2 st pl sk ss cs 0 0).lo = _
                         rw [mix_end, hth]
                         rfl
                       · show (wayAt 2 st pl sk ss cs 0 0).hi = _
                         rw [mix_end, hth]
                         rfl
                     · simp only [hek, if_false]
                       rw [mix_other hek]
                       exact closedL_le rfl)
                  | (by_cases hek : e = k + 1
                     · subst hek
                       have hw0 : wayAt 2 st pl sk ss cs (k + 1) (k + 1) = thruAt 2 st pl sk ss cs (k + 1) := by unfold wayAt; rw [if_neg (by omega)]
                       simp only [if_true]
                       refine ⟨⟨trivial, ⟨?_⟩⟩, ⟨trivial, ⟨?_⟩⟩, trivial⟩
                       · show (wayAt 2 st pl sk ss cs (k + 1) (k + 1)).lo = _
                         rw [hw0, hth]
                         rfl
                       · show (wayAt 2 st pl sk ss cs (k + 1) (k + 1)).hi = _
                         rw [hw0, hth]
                         rfl
                     · simp only [hek, if_false]
                       rw [mix_other hek]
                       exact closedL_le rfl)
end Go.Proofs.YthgllnnlngihoaaGreat.Sx
end
section
set_option linter.unusedVariables false
set_option linter.unusedSimpArgs false
set_option maxRecDepth 100000
namespace Go.Proofs.YthgllnnlngihoaaGreat.Sx
open Go.RowKit

def posOf (of gap : Nat) : Option Nat := match Nat.beq gap 138 with
  | true => match Nat.beq of 141 with
    | true => some 0
    | false => match Nat.beq of 142 with
      | true => some 1
      | false => none
  | false => match Nat.beq gap 144 with
    | true => match Nat.beq of 143 with
      | true => some 2
      | false => none
    | false => none
theorem posOf_some {of gap p : Nat} (h : posOf of gap = some p) : (p = 0 ∧ of = 141 ∧ gap = 138) ∨ (p = 1 ∧ of = 142 ∧ gap = 138) ∨ (p = 2 ∧ of = 143 ∧ gap = 144) := by
  unfold posOf at h
  split at h
  · rename_i hg
    have hg := Nat.eq_of_beq_eq_true hg
    split at h
    · rename_i ho; have ho := Nat.eq_of_beq_eq_true ho; cases h; exact .inl ⟨rfl, ho, hg⟩
    · split at h
      · rename_i ho; have ho := Nat.eq_of_beq_eq_true ho; cases h; exact .inr (.inl ⟨rfl, ho, hg⟩)
      · cases h
  · split at h
    · rename_i hg
      have hg := Nat.eq_of_beq_eq_true hg
      split at h
      · rename_i ho; have ho := Nat.eq_of_beq_eq_true ho; cases h; exact .inr (.inr ⟨rfl, ho, hg⟩)
      · cases h
    · cases h
structure ThruIn (ss ss' : List SightD) (cs : List Int) (st pl sk : Int) : Prop where
  eq : ss = ss'
  hab : HabitOk st pl sk
  life : LifeOk ss
  kinds : KindsOk cs
  pos : 0 < ss.length
  few : ss.length ≤ 1000
  len : cs.length + 1 = ss.length
def thruOut (pos : Nat) (M : Mem) (base : Nat) (c d c' : CV) (g b1 b2 : Nat) : Out := match M b1, M b2 with
  | some (.box _ _ [e]), some (.box _ _ [.i .i64 st, .i .i64 pl, .i .i64 sk, _, _]) =>
    ⟨In fun _ => okSights M c ∧ okNotes M d ∧ okSights M c' ∧ okInts M e ∧ ThruIn (sights M c) (sights M c') (ints M e) st.val pl.val sk.val,
      .tup [.one (.ref base), .one (.b (.sy fun _ => thruOk pos st.val pl.val sk.val (sights M c) (ints M e)))], [s191Row .own fun _ => thruR pos st.val pl.val sk.val (sights M c) (ints M e)], [], g :: b1 :: b2 :: ((seen M c).reads ++ (seen M d).reads ++ (seen M c').reads ++ (seen M e).reads)⟩
  | _, _ => bad
def spThru : Spec := fun args M base => match args with
  | [.agg [.i .i64 st0, .i .i64 pl0, .i .i64 sk0, c, d], .one c', .one (.c (.func (.func of) ⟨[]⟩ ⟨[]⟩)), .one (.ref g)] => match M g with
    | some (.clo (.func gap) [] [.ref x1, .ref x2]) => match posOf of gap with
      | some 2 => thruOut 2 M base c d c' g x2 x1
      | some 1 => thruOut 1 M base c d c' g x1 x2
      | some 0 => thruOut 0 M base c d c' g x1 x2
      | _ => bad
    | _ => bad
  | _ => bad
theorem thruOut_congr {pos : Nat} {M M' : Mem} {base : Nat} {c d c' : CV} {g b1 b2 : Nat} (hs : (thruOut pos M base c d c' g b1 b2).side) (h : ∀ i ∈ (thruOut pos M base c d c' g b1 b2).reads, M' i = M i) : thruOut pos M' base c d c' g b1 b2 = thruOut pos M base c d c' g b1 b2 ∧ M' g = M g := by
  unfold thruOut at *
  split at hs
  · rename_i h1 h2
    simp only [h1, h2] at h
    have e0 := h g (by simp)
    have e1 := h b1 (by simp)
    have e2 := h b2 (by simp)
    refine ⟨?_, e0⟩
    rw [e1, e2, h1, h2]
    simp only [okSights, okNotes, okInts, sights, notes, ints]
    rw [seen_congr (M := M) (M' := M') (fun i hi => h i (by simp [hi])), seen_congr (M := M) (M' := M') (fun i hi => h i (by simp [hi])), seen_congr (M := M) (M' := M') (fun i hi => h i (by simp [hi])), seen_congr (M := M) (M' := M') (fun i hi => h i (by simp [hi]))]
  · exact hs.elim
theorem congrThru : spThru.Congr := by
  intro args M M' base hs h
  unfold spThru at *
  split at hs
  · simp only at h hs ⊢
    split at hs
    · rename_i hM
      simp only [hM] at h
      split at hs
      all_goals first | exact hs.elim | skip
      all_goals
        rename_i hp
        simp only [hp] at h
        obtain ⟨e1, e2⟩ := thruOut_congr hs h
        simp only [e2, hM, hp]
        exact e1
    · exact hs.elim
  · exact hs.elim
theorem s191_le (xs : Unit → List SpanD) (τ : Nat → Option Src) : ObLe τ (s191Row .own xs) (s191Row .own xs) := rowOf_le s191Cod .own (xs ()) τ
theorem thru_go {pos : Nat} (args : List IV) (M : Mem) (base : Nat) {ss : List SightD} {cs : List Int} {st pl sk : Int} {cargs : List IV} {obs : List Ob} (hv : ∀ B, vc (en (thruG fun k => eqB (cs.getD k 0) 0)) ⟨fun _ => none, B, fun _ => False, Tryz.f140.ntmps, none⟩ (fbody Tryz.f140) (start cargs obs) (thruPost pos st pl sk ss cs)) (h1 : cargs.length ≤ Tryz.f140.ntmps) (h2 : sameShape args cargs) (h3 : Flat M 0 (args.flatMap (·.cells)) (cargs.flatMap (·.cells)) obs) :
    ∃ (l : List (FuncId × Spec)) (cargs : List IV) (obs : List Ob) (r : Nat → IV) (news : Nat → List Ob), AllSpecs l ∧ cargs.length ≤ Tryz.f140.ntmps ∧ sameShape args cargs ∧ Flat M 0 (args.flatMap (·.cells)) (cargs.flatMap (·.cells)) obs ∧
      (IV.tup [.one (.ref base), .one (.b (.sy fun _ => thruOk pos st pl sk ss cs))]) = r base ∧ [s191Row .own fun _ => thruR pos st pl sk ss cs] = news base ∧ True ∧ IvLe (tauN base (news 0).length) (r 0) (r base) ∧ All2 (ObLe (tauN base (news 0).length)) (news 0) (news base) ∧ (∀ ob ∈ news base, ob.own = true ∨ ¬ ob.occ) ∧
      ∀ B, vc (en l) ⟨fun _ => none, B, fun _ => False, Tryz.f140.ntmps, none⟩ (fbody Tryz.f140) (start cargs obs) fun x st => isRet x ∧ (resultI tab Tryz.f140.results.toList st.S.get (lget st.M)).1 ∧ ∃ js, FinBy tab Tryz.f140.results.toList js st (r 0) (news 0) :=
  ⟨_, cargs, obs, fun base => .tup [.one (.ref base), .one (.b (.sy fun _ => thruOk pos st pl sk ss cs))], fun _ => [s191Row .own fun _ => thruR pos st pl sk ss cs], thruG_ok _, h1, h2, h3, rfl, rfl, trivial, ⟨tauN_at (t := 0) (by simp), ⟨rfl⟩, trivial⟩, ⟨s191_le _ _, trivial⟩, (by
    intro ob hob
    rcases List.mem_cons.1 hob with e | h
    · subst e; exact .inl rfl
    · cases h), hv⟩
theorem okThru : SpecOk F0 Tryz.prog 140 spThru := by
  refine spec_any (fn := Tryz.f140) (c := fbody Tryz.f140) (by kernel_rfl) rfl rfl (by kernel_rfl) congrThru fun args M base hs => ?_
  unfold spThru at hs ⊢
  split at hs
  · split at hs
    · rename_i st0 pl0 sk0 c d c' of g _ gap x1 x2 hM
      split at hs
      all_goals first | exact hs.elim | skip
      all_goals
        rename_i hp
        try simp only [hp]
        rcases posOf_some hp with ⟨e1, e2, e3⟩ | ⟨e1, e2, e3⟩ | ⟨e1, e2, e3⟩ <;> first | cases e1 | skip
        subst e2
        subst e3
        unfold thruOut at hs ⊢
        split at hs
        all_goals first | exact hs.elim | skip
        rename_i e _ _ st pl sk _ _ h1 h2
        obtain ⟨k1, k2, k3, k4, ⟨q1, q2, q3, q4, q5, q6, q7⟩⟩ := hs.ok
        try simp only [h1, h2]
        have q1' := q1
        generalize hss : sights M c = ss at *
        have k1' := sight_from k1
        have k3' := sight_from k3
        rw [hss] at k1'
        rw [← q1] at k3'
        first
          | refine thru_go [.agg [.i .i64 st0, .i .i64 pl0, .i .i64 sk0, c, d], .one c', .one (.c (.func (.func 141) ⟨[]⟩ ⟨[]⟩)), .one (.ref g)] M base (thru_vc0 q2 q3 q4 q5 q6 q7 _ (fun _ => rfl)) (Nat.le_of_ble_eq_true rfl) ⟨rfl, trivial⟩ (.val rfl (.val rfl (.val rfl (.row k1' (.row (note_from k2) (.row k3' (.val rfl (.clo hM rfl (.box h1 (.row (int_from k4) .nil) (.box h2 (.val rfl (.val rfl (.val rfl (.any (.any .nil))))) .nil)) .nil))))))))
          | refine thru_go [.agg [.i .i64 st0, .i .i64 pl0, .i .i64 sk0, c, d], .one c', .one (.c (.func (.func 142) ⟨[]⟩ ⟨[]⟩)), .one (.ref g)] M base (thru_vc1 q2 q3 q4 q5 q6 q7 _ (fun _ => rfl)) (Nat.le_of_ble_eq_true rfl) ⟨rfl, trivial⟩ (.val rfl (.val rfl (.val rfl (.row k1' (.row (note_from k2) (.row k3' (.val rfl (.clo hM rfl (.box h1 (.row (int_from k4) .nil) (.box h2 (.val rfl (.val rfl (.val rfl (.any (.any .nil))))) .nil)) .nil))))))))
          | refine thru_go [.agg [.i .i64 st0, .i .i64 pl0, .i .i64 sk0, c, d], .one c', .one (.c (.func (.func 143) ⟨[]⟩ ⟨[]⟩)), .one (.ref g)] M base (thru_vc2 q2 q3 q4 q5 q6 q7 _ (fun _ => rfl)) (Nat.le_of_ble_eq_true rfl) ⟨rfl, trivial⟩ (.val rfl (.val rfl (.val rfl (.row k1' (.row (note_from k2) (.row k3' (.val rfl (.clo hM rfl (.box h2 (.val rfl (.val rfl (.val rfl (.any (.any .nil))))) (.box h1 (.row (int_from k4) .nil) .nil)) .nil))))))))
    · exact hs.elim
  · exact hs.elim
end Go.Proofs.YthgllnnlngihoaaGreat.Sx
end
