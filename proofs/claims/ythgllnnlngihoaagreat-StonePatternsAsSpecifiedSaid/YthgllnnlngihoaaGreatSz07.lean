/- Notes: the reference's; Courses: the reference's check; by how much a gap moves a stone; What gaps do: function values; What is left of spans, in plain words. -/
import Derived.Test.YthgllnnlngihoaaGreatSz06
section
set_option linter.unusedVariables false
set_option linter.unusedSimpArgs false
set_option maxRecDepth 100000
namespace Go.Proofs.YthgllnnlngihoaaGreat.Sx
open Go.RowKit

def spRefNoted : Spec := fun args M _ => match args with
  | [.agg [.i .i64 st, .i .i64 pl, .i .i64 sk, c, d], .one e, .agg [.i .i64 id, .i .i64 kind, .i .i64 frm, .i .i64 til]] => ⟨In fun _ => okLife M c d ∧ okInts M e ∧ (ints M e).length < (sights M c).length, cbool (.sy fun _ => notedB (sights M c) kind.val frm.val til.val (ints M e)), [], [], (seen M c).reads ++ (seen M d).reads ++ (seen M e).reads⟩
  | _ => bad
theorem congrRefNoted : spRefNoted.Congr := by
  intro args M M' base hs h
  unfold spRefNoted at *
  split at hs
  · simp only [okLife, okSights, okNotes, okInts, sights, notes, ints] at h ⊢
    rw [seen_congr (M := M) (M' := M') (fun i hi => h i (List.mem_append_left _ (List.mem_append_left _ hi))), seen_congr (M := M) (M' := M') (fun i hi => h i (List.mem_append_left _ (List.mem_append_right _ hi))), seen_congr (M := M) (M' := M') (fun i hi => h i (List.mem_append_right _ hi))]
  · exact hs.elim
theorem okRefNoted : SpecOk F0 Tryz.prog 114 spRefNoted := by
  refine spec_val (e := en []) (en_ok trivial) rfl (fn := Tryz.f114) (c := fbody Tryz.f114) (by kernel_rfl) rfl rfl (by kernel_rfl) congrRefNoted fun args M base hs => ?_
  unfold spRefNoted at hs ⊢
  split at hs
  · rename_i st pl sk c d e id kind frm til
    refine ⟨[.agg [.i .i64 (.sy fun _ => st.val), .i .i64 (.sy fun _ => pl.val), .i .i64 (.sy fun _ => sk.val), .ref 0, .ref 1], .one (.ref 2), .agg [.i .i64 (.sy fun _ => id.val), .i .i64 (.sy fun _ => kind.val), .i .i64 (.sy fun _ => frm.val), .i .i64 (.sy fun _ => til.val)]], [sightRow .ro (sights M c), noteRow .ro (notes M d), intRow .ro (ints M e)], Nat.le_of_ble_eq_true rfl, ⟨rfl, rfl, trivial⟩,
      .val rfl (.val rfl (.val rfl (.row (sight_from hs.ok.1.1) (.row (note_from hs.ok.1.2.1) (.row (int_from hs.ok.2.1) (.val rfl (.val rfl (.val rfl (.val rfl .nil))))))))), rfl, rfl, rfl, fun B => ?_⟩
    have hsz : (sights M c).length ≤ 140737488355328 := hs.ok.1.2.2.1
    have hlt0 : (ints M e).length < (sights M c).length := hs.ok.2.2
    clear hs
    show vc _ _ _ _ fun x st => _ ∧ _ ∧ IvLe _ _ (cbool (.sy fun _ => notedB (sights M c) kind.val frm.val til.val (ints M e)))
    revert hsz hlt0
    generalize sights M c = ss
    generalize notes M d = ns
    generalize ints M e = cs
    intro hsz hlt0
    cbv
    simp only [implies_true, and_true, true_and, IX.v_lit, IX.v_nat, IX.v_sy, BX.v_lit, BX.v_sy, NX.v_lit, NX.v_sy, addN, in_true, eq_self, Nat.succ_eq_add_one, intD_eq, encInt_le, encText_le, encSpan_le, encPair_le, encBox_le, encNote_le, encSight_le, cell_i_le, Nat.add_zero, Int.toNat_natCast, Nat.lt_irrefl, if_false, and_self, ncast, imp_self, in_self, in_self2, in_and, Int.cast_ofNat_Int, in_and2, ltB_t, ltB_f, leB_t, leB_f, eqB_t, eqB_f, ltNB_t, ltNB_f, leNB_t, leNB_f, eqNB_t, eqNB_f, noT, noF, Bool.and_eq_true, Bool.or_eq_true, Bool.and_eq_false_iff, Bool.or_eq_false_iff]
    refine ⟨{i : Nat // i ≤ cs.length ∧ ∀ j, j < i → badAt ss kind.val frm.val til.val cs j = false}, fun i => ⟨[(1, .lit true, .one (.ref 2)), (3, .lit true, .one (.ref 3)), (5, .lit true, .one (.ref 4)), (7, .lit true, cbool (.sy fun _ => someTo ss kind.val frm.val til.val cs i.1)), (8, .lit true, cint .i64 (.nat (fun _ => i.1) 0))], [(0, sightRow .ro ss), (1, noteRow .ro ns), (2, intRow .ro cs), (3, .box true 27 [.i .i64 (.sy fun _ => st.val), .i .i64 (.sy fun _ => pl.val), .i .i64 (.sy fun _ => sk.val), .ref 0, .ref 1]), (4, .box true 121 [.i .i64 (.sy fun _ => id.val), .i .i64 (.sy fun _ => kind.val), .i .i64 (.sy fun _ => frm.val), .i .i64 (.sy fun _ => til.val)])], 5⟩, fun i => cs.length - i.1, ⟨0, by omega, fun j hj => by omega⟩, LeBy.le (pins := []) (fun i u h => by cases h) (l := [(0, .old 0), (1, .old 1), (2, .old 2), (3, .old 3), (4, .old 4)]) ?_, fun i => ?_⟩
    · cbv
      simp only [implies_true, and_true, true_and, IX.v_lit, IX.v_nat, IX.v_sy, BX.v_lit, BX.v_sy, NX.v_lit, NX.v_sy, addN, in_true, eq_self, Nat.succ_eq_add_one, intD_eq, encInt_le, encText_le, encSpan_le, encPair_le, encBox_le, encNote_le, encSight_le, cell_i_le, Nat.add_zero, Int.toNat_natCast, Nat.lt_irrefl, if_false, and_self, ncast, imp_self, in_self, in_self2, in_and, Int.cast_ofNat_Int, in_and2, ltB_t, ltB_f, leB_t, leB_f, eqB_t, eqB_f, ltNB_t, ltNB_f, leNB_t, leNB_f, eqNB_t, eqNB_f, noT, noF, Bool.and_eq_true, Bool.or_eq_true, Bool.and_eq_false_iff, Bool.or_eq_false_iff]
      exact ⟨rfl⟩
    · obtain ⟨i, hi, hl⟩ := i
      cbv
      simp only [implies_true, and_true, true_and, IX.v_lit, IX.v_nat, IX.v_sy, BX.v_lit, BX.v_sy, NX.v_lit, NX.v_sy, addN, in_true, eq_self, Nat.succ_eq_add_one, intD_eq, encInt_le, encText_le, encSpan_le, encPair_le, encBox_le, encNote_le, encSight_le, cell_i_le, Nat.add_zero, Int.toNat_natCast, Nat.lt_irrefl, if_false, and_self, ncast, imp_self, in_self, in_self2, in_and, Int.cast_ofNat_Int, in_and2, ltB_t, ltB_f, leB_t, leB_f, eqB_t, eqB_f, ltNB_t, ltNB_f, leNB_t, leNB_f, eqNB_t, eqNB_f, noT, noF, Bool.and_eq_true, Bool.or_eq_true, Bool.and_eq_false_iff, Bool.or_eq_false_iff]
      refine ⟨fun hlt => ?_, fun hlt => ?_⟩
      · cbv
        simp only [implies_true, and_true, true_and, IX.v_lit, IX.v_nat, IX.v_sy, BX.v_lit, BX.v_sy, NX.v_lit, NX.v_sy, addN, in_true, eq_self, Nat.succ_eq_add_one, intD_eq, encInt_le, encText_le, encSpan_le, encPair_le, encBox_le, encNote_le, encSight_le, cell_i_le, Nat.add_zero, Int.toNat_natCast, Nat.lt_irrefl, if_false, and_self, ncast, imp_self, in_self, in_self2, in_and, Int.cast_ofNat_Int, in_and2, ltB_t, ltB_f, leB_t, leB_f, eqB_t, eqB_f, ltNB_t, ltNB_f, leNB_t, leNB_f, eqNB_t, eqNB_f, noT, noF, Bool.and_eq_true, Bool.or_eq_true, Bool.and_eq_false_iff, Bool.or_eq_false_iff]
        refine ⟨⟨by omega⟩, ⟨by omega⟩, ⟨nat_fits (n := ss.length) (by omega) hsz⟩, ⟨by omega⟩, ⟨by omega⟩, fun _ => ⟨hlt⟩, fun _ => ⟨hlt⟩, fun hbad => ?_, fun hgood => ?_⟩
        · cbv
          simp only [implies_true, and_true, true_and, IX.v_lit, IX.v_nat, IX.v_sy, BX.v_lit, BX.v_sy, NX.v_lit, NX.v_sy, addN, in_true, eq_self, Nat.succ_eq_add_one, intD_eq, encInt_le, encText_le, encSpan_le, encPair_le, encBox_le, encNote_le, encSight_le, cell_i_le, Nat.add_zero, Int.toNat_natCast, Nat.lt_irrefl, if_false, and_self, ncast, imp_self, in_self, in_self2, in_and, Int.cast_ofNat_Int, in_and2, ltB_t, ltB_f, leB_t, leB_f, eqB_t, eqB_f, ltNB_t, ltNB_f, leNB_t, leNB_f, eqNB_t, eqNB_f, noT, noF, Bool.and_eq_true, Bool.or_eq_true, Bool.and_eq_false_iff, Bool.or_eq_false_iff]
          refine ⟨?_⟩
          have hb : badAt ss kind.val frm.val til.val cs i = true := by
            unfold badAt yearAt
            simpa [and_assoc] using hbad
          unfold notedB
          have : (List.range cs.length).all (fun k => !badAt ss kind.val frm.val til.val cs k) = false := List.all_eq_false.2 ⟨i, List.mem_range.2 hlt, by rw [hb]; simp⟩
          rw [this, Bool.false_and]
        · have hb : badAt ss kind.val frm.val til.val cs i = false := by
            unfold badAt yearAt
            simp only [Bool.and_eq_false_iff, decide_eq_false_iff_not, Bool.not_eq_false', decide_eq_true_eq]
            (first | omega | (simp only [ncast] at *; omega))
          cbv
          simp only [implies_true, and_true, true_and, IX.v_lit, IX.v_nat, IX.v_sy, BX.v_lit, BX.v_sy, NX.v_lit, NX.v_sy, addN, in_true, eq_self, Nat.succ_eq_add_one, intD_eq, encInt_le, encText_le, encSpan_le, encPair_le, encBox_le, encNote_le, encSight_le, cell_i_le, Nat.add_zero, Int.toNat_natCast, Nat.lt_irrefl, if_false, and_self, ncast, imp_self, in_self, in_self2, in_and, Int.cast_ofNat_Int, in_and2, ltB_t, ltB_f, leB_t, leB_f, eqB_t, eqB_f, ltNB_t, ltNB_f, leNB_t, leNB_f, eqNB_t, eqNB_f, noT, noF, Bool.and_eq_true, Bool.or_eq_true, Bool.and_eq_false_iff, Bool.or_eq_false_iff]
          refine ⟨fun _ => ⟨hlt⟩, fun _ => ⟨hlt⟩, ⟨nat_fits (n := ss.length) (by omega) hsz⟩, ⟨i + 1, by omega, fun j hj => ?_⟩, LeBy.le (pins := []) (fun i u h => by cases h) (l := [(0, .old 0), (1, .old 1), (2, .old 2), (3, .old 3), (4, .old 4)]) ?_, by show cs.length - (i + 1) < cs.length - i; omega⟩
          · rcases Nat.lt_or_ge j i with h1 | h1
            · exact hl j h1
            · rw [show j = i by omega]
              exact hb
          · cbv
            simp only [implies_true, and_true, true_and, IX.v_lit, IX.v_nat, IX.v_sy, BX.v_lit, BX.v_sy, NX.v_lit, NX.v_sy, addN, in_true, eq_self, Nat.succ_eq_add_one, intD_eq, encInt_le, encText_le, encSpan_le, encPair_le, encBox_le, encNote_le, encSight_le, cell_i_le, Nat.add_zero, Int.toNat_natCast, Nat.lt_irrefl, if_false, and_self, ncast, imp_self, in_self, in_self2, in_and, Int.cast_ofNat_Int, in_and2, ltB_t, ltB_f, leB_t, leB_f, eqB_t, eqB_f, ltNB_t, ltNB_f, leNB_t, leNB_f, eqNB_t, eqNB_f, noT, noF, Bool.and_eq_true, Bool.or_eq_true, Bool.and_eq_false_iff, Bool.or_eq_false_iff]
            refine ⟨?_⟩
            unfold someTo
            rw [List.range_succ, List.any_append]
            simp only [List.any_cons, List.any_nil, Bool.or_false]
            rfl
      · cbv
        simp only [implies_true, and_true, true_and, IX.v_lit, IX.v_nat, IX.v_sy, BX.v_lit, BX.v_sy, NX.v_lit, NX.v_sy, addN, in_true, eq_self, Nat.succ_eq_add_one, intD_eq, encInt_le, encText_le, encSpan_le, encPair_le, encBox_le, encNote_le, encSight_le, cell_i_le, Nat.add_zero, Int.toNat_natCast, Nat.lt_irrefl, if_false, and_self, ncast, imp_self, in_self, in_self2, in_and, Int.cast_ofNat_Int, in_and2, ltB_t, ltB_f, leB_t, leB_f, eqB_t, eqB_f, ltNB_t, ltNB_f, leNB_t, leNB_f, eqNB_t, eqNB_f, noT, noF, Bool.and_eq_true, Bool.or_eq_true, Bool.and_eq_false_iff, Bool.or_eq_false_iff]
        refine ⟨?_⟩
        unfold notedB
        rw [show cs.length = i by omega]
        have : (List.range i).all (fun k => !badAt ss kind.val frm.val til.val cs k) = true := List.all_eq_true.2 fun j hj => by rw [hl j (List.mem_range.1 hj)]; rfl
        rw [this, Bool.true_and]
        rfl
  · exact hs.elim
end Go.Proofs.YthgllnnlngihoaaGreat.Sx
end
section
set_option linter.unusedVariables false
set_option linter.unusedSimpArgs false
set_option maxRecDepth 100000
namespace Go.Proofs.YthgllnnlngihoaaGreat.Sx
open Go.RowKit

def kindsTo (cs : List Int) (i : Nat) : Bool := (List.range i).all fun j => decide (0 ≤ cs.getD j 0) && decide (cs.getD j 0 ≤ 2)
def courseB (n : Nat) (cs : List Int) : Bool := decide (cs.length + 1 = n) && kindsTo cs cs.length
def spRefCourse : Spec := fun args M _ => match args with
  | [.agg [.i .i64 st, .i .i64 pl, .i .i64 sk, c, d], .one e] => ⟨In fun _ => okLife M c d ∧ okInts M e ∧ (ints M e).length ≤ 140737488355328, cint .i64 (.sy fun _ => bif courseB (sights M c).length (ints M e) then 0 else 50), [], [], (seen M c).reads ++ (seen M d).reads ++ (seen M e).reads⟩
  | _ => bad
theorem congrRefCourse : spRefCourse.Congr := by
  intro args M M' base hs h
  unfold spRefCourse at *
  split at hs
  · simp only [okLife, okSights, okNotes, okInts, sights, notes, ints] at h ⊢
    rw [seen_congr (M := M) (M' := M') (fun i hi => h i (List.mem_append_left _ (List.mem_append_left _ hi))), seen_congr (M := M) (M' := M') (fun i hi => h i (List.mem_append_left _ (List.mem_append_right _ hi))), seen_congr (M := M) (M' := M') (fun i hi => h i (List.mem_append_right _ hi))]
  · exact hs.elim
theorem okRefCourse : SpecOk F0 Tryz.prog 147 spRefCourse := by
  refine spec_val (e := en []) (en_ok trivial) rfl (fn := Tryz.f147) (c := fbody Tryz.f147) (by kernel_rfl) rfl rfl (by kernel_rfl) congrRefCourse fun args M base hs => ?_
  unfold spRefCourse at hs ⊢
  split at hs
  · rename_i st pl sk c d e
    refine ⟨[.agg [.i .i64 (.sy fun _ => st.val), .i .i64 (.sy fun _ => pl.val), .i .i64 (.sy fun _ => sk.val), .ref 0, .ref 1], .one (.ref 2)], [sightRow .ro (sights M c), noteRow .ro (notes M d), intRow .ro (ints M e)], Nat.le_of_ble_eq_true rfl, ⟨rfl, trivial⟩, .val rfl (.val rfl (.val rfl (.row (sight_from hs.ok.1.1) (.row (note_from hs.ok.1.2.1) (.row (int_from hs.ok.2.1) .nil))))), rfl, rfl, rfl, fun B => ?_⟩
    have hsz : (sights M c).length ≤ 140737488355328 := hs.ok.1.2.2.1
    have hsz2 : (ints M e).length ≤ 140737488355328 := hs.ok.2.2
    clear hs
    show vc _ _ _ _ fun x st => _ ∧ _ ∧ IvLe _ _ (cint .i64 (.sy fun _ => bif courseB (sights M c).length (ints M e) then 0 else 50))
    revert hsz hsz2
    generalize sights M c = ss
    generalize notes M d = ns
    generalize ints M e = cs
    intro hsz hsz2
    cbv
    simp only [implies_true, and_true, true_and, IX.v_lit, IX.v_nat, IX.v_sy, BX.v_lit, BX.v_sy, NX.v_lit, NX.v_sy, addN, in_true, eq_self, Nat.succ_eq_add_one, intD_eq, encInt_le, encText_le, encSpan_le, encPair_le, encBox_le, encNote_le, encSight_le, cell_i_le, Nat.add_zero, Int.toNat_natCast, Nat.lt_irrefl, if_false, and_self, ncast, imp_self, in_self, in_self2, in_and, Int.cast_ofNat_Int, in_and2, ltB_t, ltB_f, leB_t, leB_f, eqB_t, eqB_f, ltNB_t, ltNB_f, leNB_t, leNB_f, eqNB_t, eqNB_f, noT, noF, Bool.and_eq_true, Bool.or_eq_true, Bool.and_eq_false_iff, Bool.or_eq_false_iff]
    refine ⟨⟨by unfold fitsK; (first | omega | (simp only [ncast] at *; omega))⟩, fun h => ?_, fun h => ?_⟩
    · have hb : courseB ss.length cs = false := by
        unfold courseB
        have : decide (cs.length + 1 = ss.length) = false := by
          simp only [decide_eq_false_iff_not]
          (first | omega | (simp only [ncast] at *; omega))
        rw [this, Bool.false_and]
      cbv
      simp only [implies_true, and_true, true_and, IX.v_lit, IX.v_nat, IX.v_sy, BX.v_lit, BX.v_sy, NX.v_lit, NX.v_sy, addN, in_true, eq_self, Nat.succ_eq_add_one, intD_eq, encInt_le, encText_le, encSpan_le, encPair_le, encBox_le, encNote_le, encSight_le, cell_i_le, Nat.add_zero, Int.toNat_natCast, Nat.lt_irrefl, if_false, and_self, ncast, imp_self, in_self, in_self2, in_and, Int.cast_ofNat_Int, in_and2, ltB_t, ltB_f, leB_t, leB_f, eqB_t, eqB_f, ltNB_t, ltNB_f, leNB_t, leNB_f, eqNB_t, eqNB_f, noT, noF, Bool.and_eq_true, Bool.or_eq_true, Bool.and_eq_false_iff, Bool.or_eq_false_iff]
      exact ⟨by rw [hb]; rfl⟩
    · have hd : decide (cs.length + 1 = ss.length) = true := by
        simp only [decide_eq_true_eq]
        (first | omega | (simp only [ncast] at *; omega))
      cbv
      simp only [implies_true, and_true, true_and, IX.v_lit, IX.v_nat, IX.v_sy, BX.v_lit, BX.v_sy, NX.v_lit, NX.v_sy, addN, in_true, eq_self, Nat.succ_eq_add_one, intD_eq, encInt_le, encText_le, encSpan_le, encPair_le, encBox_le, encNote_le, encSight_le, cell_i_le, Nat.add_zero, Int.toNat_natCast, Nat.lt_irrefl, if_false, and_self, ncast, imp_self, in_self, in_self2, in_and, Int.cast_ofNat_Int, in_and2, ltB_t, ltB_f, leB_t, leB_f, eqB_t, eqB_f, ltNB_t, ltNB_f, leNB_t, leNB_f, eqNB_t, eqNB_f, noT, noF, Bool.and_eq_true, Bool.or_eq_true, Bool.and_eq_false_iff, Bool.or_eq_false_iff]
      refine ⟨{i : Nat // i ≤ cs.length ∧ kindsTo cs i = true}, fun i => ⟨[(1, .lit true, .one (.ref 2)), (5, .lit true, cint .i64 (.nat (fun _ => i.1) 0))], [(2, intRow .ro cs)], 3⟩, fun i => cs.length - i.1, ⟨0, by omega, rfl⟩, LeBy.le (pins := []) (fun i u h => by cases h) (l := [(2, .old 2)]) ?_, fun i => ?_⟩
      · cbv
        simp only [implies_true, and_true, true_and, IX.v_lit, IX.v_nat, IX.v_sy, BX.v_lit, BX.v_sy, NX.v_lit, NX.v_sy, addN, in_true, eq_self, Nat.succ_eq_add_one, intD_eq, encInt_le, encText_le, encSpan_le, encPair_le, encBox_le, encNote_le, encSight_le, cell_i_le, Nat.add_zero, Int.toNat_natCast, Nat.lt_irrefl, if_false, and_self, ncast, imp_self, in_self, in_self2, in_and, Int.cast_ofNat_Int, in_and2, ltB_t, ltB_f, leB_t, leB_f, eqB_t, eqB_f, ltNB_t, ltNB_f, leNB_t, leNB_f, eqNB_t, eqNB_f, noT, noF, Bool.and_eq_true, Bool.or_eq_true, Bool.and_eq_false_iff, Bool.or_eq_false_iff]
      · obtain ⟨i, hi, hl⟩ := i
        cbv
        simp only [implies_true, and_true, true_and, IX.v_lit, IX.v_nat, IX.v_sy, BX.v_lit, BX.v_sy, NX.v_lit, NX.v_sy, addN, in_true, eq_self, Nat.succ_eq_add_one, intD_eq, encInt_le, encText_le, encSpan_le, encPair_le, encBox_le, encNote_le, encSight_le, cell_i_le, Nat.add_zero, Int.toNat_natCast, Nat.lt_irrefl, if_false, and_self, ncast, imp_self, in_self, in_self2, in_and, Int.cast_ofNat_Int, in_and2, ltB_t, ltB_f, leB_t, leB_f, eqB_t, eqB_f, ltNB_t, ltNB_f, leNB_t, leNB_f, eqNB_t, eqNB_f, noT, noF, Bool.and_eq_true, Bool.or_eq_true, Bool.and_eq_false_iff, Bool.or_eq_false_iff]
        refine ⟨fun hlt => ?_, fun hlt => ?_⟩
        · have hsucc : kindsTo cs (i + 1) = (decide (0 ≤ cs.getD i 0) && decide (cs.getD i 0 ≤ 2)) := by
            unfold kindsTo at hl ⊢
            rw [List.range_succ, List.all_append, hl]
            simp only [List.all_cons, List.all_nil, Bool.and_true, Bool.true_and]
          cbv
          simp only [implies_true, and_true, true_and, IX.v_lit, IX.v_nat, IX.v_sy, BX.v_lit, BX.v_sy, NX.v_lit, NX.v_sy, addN, in_true, eq_self, Nat.succ_eq_add_one, intD_eq, encInt_le, encText_le, encSpan_le, encPair_le, encBox_le, encNote_le, encSight_le, cell_i_le, Nat.add_zero, Int.toNat_natCast, Nat.lt_irrefl, if_false, and_self, ncast, imp_self, in_self, in_self2, in_and, Int.cast_ofNat_Int, in_and2, ltB_t, ltB_f, leB_t, leB_f, eqB_t, eqB_f, ltNB_t, ltNB_f, leNB_t, leNB_f, eqNB_t, eqNB_f, noT, noF, Bool.and_eq_true, Bool.or_eq_true, Bool.and_eq_false_iff, Bool.or_eq_false_iff]
          refine ⟨⟨hlt⟩, ⟨hlt⟩, fun _ => ⟨hlt⟩, fun _ => ⟨hlt⟩, fun hbad => ?_, fun hgood => ?_⟩
          · have hk : kindsTo cs cs.length = false := List.all_eq_false.2 ⟨i, List.mem_range.2 hlt, by
              simp only [Bool.and_eq_true, decide_eq_true_eq]
              omega⟩
            have hb : courseB ss.length cs = false := by
              unfold courseB
              rw [hk, Bool.and_false]
            cbv
            simp only [implies_true, and_true, true_and, IX.v_lit, IX.v_nat, IX.v_sy, BX.v_lit, BX.v_sy, NX.v_lit, NX.v_sy, addN, in_true, eq_self, Nat.succ_eq_add_one, intD_eq, encInt_le, encText_le, encSpan_le, encPair_le, encBox_le, encNote_le, encSight_le, cell_i_le, Nat.add_zero, Int.toNat_natCast, Nat.lt_irrefl, if_false, and_self, ncast, imp_self, in_self, in_self2, in_and, Int.cast_ofNat_Int, in_and2, ltB_t, ltB_f, leB_t, leB_f, eqB_t, eqB_f, ltNB_t, ltNB_f, leNB_t, leNB_f, eqNB_t, eqNB_f, noT, noF, Bool.and_eq_true, Bool.or_eq_true, Bool.and_eq_false_iff, Bool.or_eq_false_iff]
            exact ⟨by rw [hb]; rfl⟩
          · cbv
            simp only [implies_true, and_true, true_and, IX.v_lit, IX.v_nat, IX.v_sy, BX.v_lit, BX.v_sy, NX.v_lit, NX.v_sy, addN, in_true, eq_self, Nat.succ_eq_add_one, intD_eq, encInt_le, encText_le, encSpan_le, encPair_le, encBox_le, encNote_le, encSight_le, cell_i_le, Nat.add_zero, Int.toNat_natCast, Nat.lt_irrefl, if_false, and_self, ncast, imp_self, in_self, in_self2, in_and, Int.cast_ofNat_Int, in_and2, ltB_t, ltB_f, leB_t, leB_f, eqB_t, eqB_f, ltNB_t, ltNB_f, leNB_t, leNB_f, eqNB_t, eqNB_f, noT, noF, Bool.and_eq_true, Bool.or_eq_true, Bool.and_eq_false_iff, Bool.or_eq_false_iff]
            refine ⟨⟨nat_fits hlt hsz2⟩, ⟨i + 1, by omega, ?_⟩, LeBy.le (pins := []) (fun i u h => by cases h) (l := [(2, .old 2)]) ?_, by show cs.length - (i + 1) < cs.length - i; omega⟩
            · rw [hsucc]
              simp only [Bool.and_eq_true, decide_eq_true_eq]
              omega
            · cbv
              simp only [implies_true, and_true, true_and, IX.v_lit, IX.v_nat, IX.v_sy, BX.v_lit, BX.v_sy, NX.v_lit, NX.v_sy, addN, in_true, eq_self, Nat.succ_eq_add_one, intD_eq, encInt_le, encText_le, encSpan_le, encPair_le, encBox_le, encNote_le, encSight_le, cell_i_le, Nat.add_zero, Int.toNat_natCast, Nat.lt_irrefl, if_false, and_self, ncast, imp_self, in_self, in_self2, in_and, Int.cast_ofNat_Int, in_and2, ltB_t, ltB_f, leB_t, leB_f, eqB_t, eqB_f, ltNB_t, ltNB_f, leNB_t, leNB_f, eqNB_t, eqNB_f, noT, noF, Bool.and_eq_true, Bool.or_eq_true, Bool.and_eq_false_iff, Bool.or_eq_false_iff]
        · cbv
          simp only [implies_true, and_true, true_and, IX.v_lit, IX.v_nat, IX.v_sy, BX.v_lit, BX.v_sy, NX.v_lit, NX.v_sy, addN, in_true, eq_self, Nat.succ_eq_add_one, intD_eq, encInt_le, encText_le, encSpan_le, encPair_le, encBox_le, encNote_le, encSight_le, cell_i_le, Nat.add_zero, Int.toNat_natCast, Nat.lt_irrefl, if_false, and_self, ncast, imp_self, in_self, in_self2, in_and, Int.cast_ofNat_Int, in_and2, ltB_t, ltB_f, leB_t, leB_f, eqB_t, eqB_f, ltNB_t, ltNB_f, leNB_t, leNB_f, eqNB_t, eqNB_f, noT, noF, Bool.and_eq_true, Bool.or_eq_true, Bool.and_eq_false_iff, Bool.or_eq_false_iff]
          have hb : courseB ss.length cs = true := by
            unfold courseB
            rw [hd, show cs.length = i by omega, hl]
            rfl
          exact ⟨by rw [hb]; rfl⟩
  · exact hs.elim

def farN (st pl kind : Int) : Int := if kind = 1 then st else if kind = 2 then pl else 0
def spFar : Spec := fun args M _ => match args with
  | [.agg [.i .i64 st, .i .i64 pl, .i .i64 sk, c, d], .one (.i .i64 kind)] => ⟨In fun _ => okLife M c d, cint .i64 (.sy fun _ => farN st.val pl.val kind.val), [], [], (seen M c).reads ++ (seen M d).reads⟩
  | _ => bad
theorem congrFar : spFar.Congr := by
  intro args M M' base hs h
  unfold spFar at *
  split at hs
  · simp only [okLife, okSights, okNotes, sights, notes] at h ⊢
    rw [seen_congr (M := M) (M' := M') (fun i hi => h i (List.mem_append_left _ hi)), seen_congr (M := M) (M' := M') (fun i hi => h i (List.mem_append_right _ hi))]
  · exact hs.elim
theorem okFar : SpecOk F0 Tryz.prog 149 spFar := by
  refine spec_val (e := en []) (en_ok trivial) rfl (fn := Tryz.f149) (c := fbody Tryz.f149) (by kernel_rfl) rfl rfl (by kernel_rfl) congrFar fun args M base hs => ?_
  unfold spFar at hs ⊢
  split at hs
  · rename_i st pl sk c d kind
    refine ⟨[.agg [.i .i64 (.sy fun _ => st.val), .i .i64 (.sy fun _ => pl.val), .i .i64 (.sy fun _ => sk.val), .ref 0, .ref 1], .one (.i .i64 (.sy fun _ => kind.val))], [sightRow .ro (sights M c), noteRow .ro (notes M d)], Nat.le_of_ble_eq_true rfl, ⟨rfl, trivial⟩, .val rfl (.val rfl (.val rfl (.row (sight_from hs.ok.1) (.row (note_from hs.ok.2.1) (.val rfl .nil))))), rfl, rfl, rfl, fun B => ?_⟩
    clear hs
    generalize sights M c = ss
    generalize notes M d = ns
    cbv
    simp only [implies_true, and_true, true_and, IX.v_lit, IX.v_nat, IX.v_sy, BX.v_lit, BX.v_sy, NX.v_lit, NX.v_sy, addN, in_true, eq_self, Nat.succ_eq_add_one, intD_eq, encInt_le, encText_le, encSpan_le, encPair_le, encBox_le, encNote_le, encSight_le, cell_i_le, Nat.add_zero, Int.toNat_natCast, Nat.lt_irrefl, if_false, and_self, ncast, imp_self, in_self, in_self2, in_and, Int.cast_ofNat_Int, in_and2, ltB_t, ltB_f, leB_t, leB_f, eqB_t, eqB_f, ltNB_t, ltNB_f, leNB_t, leNB_f, eqNB_t, eqNB_f, noT, noF, Bool.and_eq_true, Bool.or_eq_true, Bool.and_eq_false_iff, Bool.or_eq_false_iff]
    refine ⟨fun h => ?_, fun h => ?_⟩
    · cbv
      simp only [implies_true, and_true, true_and, IX.v_lit, IX.v_nat, IX.v_sy, BX.v_lit, BX.v_sy, NX.v_lit, NX.v_sy, addN, in_true, eq_self, Nat.succ_eq_add_one, intD_eq, encInt_le, encText_le, encSpan_le, encPair_le, encBox_le, encNote_le, encSight_le, cell_i_le, Nat.add_zero, Int.toNat_natCast, Nat.lt_irrefl, if_false, and_self, ncast, imp_self, in_self, in_self2, in_and, Int.cast_ofNat_Int, in_and2, ltB_t, ltB_f, leB_t, leB_f, eqB_t, eqB_f, ltNB_t, ltNB_f, leNB_t, leNB_f, eqNB_t, eqNB_f, noT, noF, Bool.and_eq_true, Bool.or_eq_true, Bool.and_eq_false_iff, Bool.or_eq_false_iff]
      exact ⟨by unfold farN; simp [h]⟩
    · cbv
      simp only [implies_true, and_true, true_and, IX.v_lit, IX.v_nat, IX.v_sy, BX.v_lit, BX.v_sy, NX.v_lit, NX.v_sy, addN, in_true, eq_self, Nat.succ_eq_add_one, intD_eq, encInt_le, encText_le, encSpan_le, encPair_le, encBox_le, encNote_le, encSight_le, cell_i_le, Nat.add_zero, Int.toNat_natCast, Nat.lt_irrefl, if_false, and_self, ncast, imp_self, in_self, in_self2, in_and, Int.cast_ofNat_Int, in_and2, ltB_t, ltB_f, leB_t, leB_f, eqB_t, eqB_f, ltNB_t, ltNB_f, leNB_t, leNB_f, eqNB_t, eqNB_f, noT, noF, Bool.and_eq_true, Bool.or_eq_true, Bool.and_eq_false_iff, Bool.or_eq_false_iff]
      refine ⟨fun h2 => ?_, fun h2 => ?_⟩
      · cbv
        simp only [implies_true, and_true, true_and, IX.v_lit, IX.v_nat, IX.v_sy, BX.v_lit, BX.v_sy, NX.v_lit, NX.v_sy, addN, in_true, eq_self, Nat.succ_eq_add_one, intD_eq, encInt_le, encText_le, encSpan_le, encPair_le, encBox_le, encNote_le, encSight_le, cell_i_le, Nat.add_zero, Int.toNat_natCast, Nat.lt_irrefl, if_false, and_self, ncast, imp_self, in_self, in_self2, in_and, Int.cast_ofNat_Int, in_and2, ltB_t, ltB_f, leB_t, leB_f, eqB_t, eqB_f, ltNB_t, ltNB_f, leNB_t, leNB_f, eqNB_t, eqNB_f, noT, noF, Bool.and_eq_true, Bool.or_eq_true, Bool.and_eq_false_iff, Bool.or_eq_false_iff]
        exact ⟨by unfold farN; simp [h2]⟩
      · cbv
        simp only [implies_true, and_true, true_and, IX.v_lit, IX.v_nat, IX.v_sy, BX.v_lit, BX.v_sy, NX.v_lit, NX.v_sy, addN, in_true, eq_self, Nat.succ_eq_add_one, intD_eq, encInt_le, encText_le, encSpan_le, encPair_le, encBox_le, encNote_le, encSight_le, cell_i_le, Nat.add_zero, Int.toNat_natCast, Nat.lt_irrefl, if_false, and_self, ncast, imp_self, in_self, in_self2, in_and, Int.cast_ofNat_Int, in_and2, ltB_t, ltB_f, leB_t, leB_f, eqB_t, eqB_f, ltNB_t, ltNB_f, leNB_t, leNB_f, eqNB_t, eqNB_f, noT, noF, Bool.and_eq_true, Bool.or_eq_true, Bool.and_eq_false_iff, Bool.or_eq_false_iff]
        exact ⟨by unfold farN; simp [h, h2]⟩
  · exact hs.elim
end Go.Proofs.YthgllnnlngihoaaGreat.Sx
end
section
set_option linter.unusedVariables false
set_option linter.unusedSimpArgs false
set_option maxRecDepth 100000
namespace Go.Proofs.YthgllnnlngihoaaGreat.Sx
open Go.RowKit

def spFar1 : Spec := fun args M _ => match args with
  | [.agg [.i .i64 lo, .i .i64 hi], .one (.i .i64 y), .one (.ref b)] => match M b with
    | some (.box o t [.i .i64 d]) => ⟨In fun _ => fitsK .i64 (lo.val - d.val) ∧ fitsK .i64 (hi.val + d.val), .agg [.i .i64 (.sy fun _ => lo.val - d.val), .i .i64 (.sy fun _ => hi.val + d.val)], [], [], [b]⟩
    | _ => bad
  | _ => bad
theorem okFar1 : SpecOk F0 Tryz.prog 213 spFar1 := by
  refine spec_val (e := en []) (en_ok trivial) rfl (fn := Tryz.f213) (c := fbody Tryz.f213) (by kernel_rfl) rfl rfl (by kernel_rfl) ?_ fun args M base hs => ?_
  · intro args M M' base hs h
    unfold spFar1 at *
    split at hs
    · simp only at h hs ⊢
      split at hs
      · rename_i hM
        simp only [hM] at h
        rw [h _ (List.mem_singleton.2 rfl), hM]
      · exact hs.elim
    · exact hs.elim
  · unfold spFar1 at hs ⊢
    split at hs
    · split at hs
      · rename_i lo hi y b _ o t d hM
        simp only [hM]
        refine ⟨[.agg [.i .i64 (.sy fun _ => lo.val), .i .i64 (.sy fun _ => hi.val)], .one (.i .i64 (.sy fun _ => y.val)), .one (.ref 0)], [.box false t [.i .i64 (.sy fun _ => d.val)]], Nat.le_of_ble_eq_true rfl, ⟨rfl, trivial⟩, .val rfl (.val rfl (.val rfl (.box hM (.val rfl .nil) .nil))), rfl, trivial, trivial, fun B => ?_⟩
        cbv
        simp only [implies_true, and_true, true_and, IX.v_lit, IX.v_nat, IX.v_sy, BX.v_lit, BX.v_sy, NX.v_lit, NX.v_sy, addN, in_true, eq_self, Nat.succ_eq_add_one, intD_eq, encInt_le, encText_le, encSpan_le, encPair_le, encBox_le, encNote_le, encSight_le, cell_i_le, Nat.add_zero, Int.toNat_natCast, Nat.lt_irrefl, if_false, and_self, ncast, imp_self, in_self, in_self2, in_and, Int.cast_ofNat_Int, in_and2, ltB_t, ltB_f, leB_t, leB_f, eqB_t, eqB_f, ltNB_t, ltNB_f, leNB_t, leNB_f, eqNB_t, eqNB_f, noT, noF, Bool.and_eq_true, Bool.or_eq_true, Bool.and_eq_false_iff, Bool.or_eq_false_iff]
        exact ⟨⟨hs.ok.1⟩, ⟨hs.ok.2⟩⟩
      · exact hs.elim
    · exact hs.elim

/-- A gap of the sort 'so many in both directions', new. -/
def farNews (d : Unit → Int) (base : Nat) : List Ob := [.box true 3 [.i .i64 (.sy d)], .clo (.func 213) [] [.ref base]]
def farR (base : Nat) : IV := .agg [.ref (base + 1), .ref (base + 1)]
theorem farR_le (base : Nat) : IvLe (tauN base 2) (farR 0) (farR base) := ⟨tauN_at (t := 1) (by omega), tauN_at (t := 1) (by omega), trivial⟩
theorem farNews_le (d : Unit → Int) (base : Nat) : All2 (ObLe (tauN base 2)) (farNews d 0) (farNews d base) := ⟨⟨trivial, trivial, ⟨trivial, ⟨rfl⟩⟩, trivial⟩, ⟨rfl, trivial, tauN_at (t := 0) (by omega), trivial⟩, trivial⟩
theorem farNews_own (d : Unit → Int) (base : Nat) : ∀ ob ∈ farNews d base, ob.own = true ∨ ¬ ob.occ := by
  intro ob h
  rcases List.mem_cons.1 h with e | h
  · subst e; exact .inl rfl
  · rcases List.mem_cons.1 h with e | h
    · subst e; exact .inr id
    · cases h
def spFarNew : Spec := fun args _ base => match args with
  | [.one (.i .i64 d)] => ⟨True, farR base, farNews (fun _ => d.val) base, [], []⟩
  | _ => bad
theorem okFarNew : SpecOk F0 Tryz.prog 198 spFarNew := by
  refine spec_gen (e := en []) (en_ok trivial) rfl (fn := Tryz.f198) (c := fbody Tryz.f198) (by kernel_rfl) rfl rfl (by kernel_rfl) (fun _ _ _ _ _ _ => rfl) fun args M base hs => ?_
  unfold spFarNew at hs ⊢
  split at hs
  · rename_i d
    refine ⟨[.one (.i .i64 (.sy fun _ => d.val))], [], farR, farNews fun _ => d.val, Nat.le_of_ble_eq_true rfl, trivial, .val rfl .nil, rfl, rfl, rfl, farR_le base, farNews_le _ base, farNews_own _ base, fun B => ?_⟩
    cbv
    refine ⟨[.old 0, .old 2], ?_⟩
    cbv
    simp only [implies_true, and_true, true_and, IX.v_lit, IX.v_nat, IX.v_sy, BX.v_lit, BX.v_sy, NX.v_lit, NX.v_sy, addN, in_true, eq_self, Nat.succ_eq_add_one, intD_eq, encInt_le, encText_le, encSpan_le, encPair_le, encBox_le, encNote_le, encSight_le, cell_i_le, Nat.add_zero, Int.toNat_natCast, Nat.lt_irrefl, if_false, and_self, ncast, imp_self, in_self, in_self2, in_and, Int.cast_ofNat_Int, in_and2, ltB_t, ltB_f, leB_t, leB_f, eqB_t, eqB_f, ltNB_t, ltNB_f, leNB_t, leNB_f, eqNB_t, eqNB_f, noT, noF, Bool.and_eq_true, Bool.or_eq_true, Bool.and_eq_false_iff, Bool.or_eq_false_iff]
  · exact hs.elim
def spMove (g : Int → Int → Int → Int) : Spec := fun args _ base => match args with
  | [.agg [.i .i64 a, .i .i64 b, .i .i64 c]] => ⟨True, farR base, farNews (fun _ => g a.val b.val c.val) base, [], []⟩
  | _ => bad
def gSame : Int → Int → Int → Int := fun _ _ _ => 0
def gMoved : Int → Int → Int → Int := fun a _ _ => a
def gReplaced : Int → Int → Int → Int := fun _ b _ => b
theorem okSame : SpecOk F0 Tryz.prog 172 (spMove gSame) := by
  refine spec_gen (e := en [(198, spFarNew)]) (en_ok ⟨okFarNew, trivial⟩) rfl (fn := Tryz.f172) (c := fbody Tryz.f172) (by kernel_rfl) rfl rfl (by kernel_rfl) (fun _ _ _ _ _ _ => rfl) fun args M base hs => ?_
  unfold spMove at hs ⊢
  split at hs
  · rename_i a b c
    refine ⟨[.agg [.i .i64 (.sy fun _ => a.val), .i .i64 (.sy fun _ => b.val), .i .i64 (.sy fun _ => c.val)]], [], farR, farNews fun _ => gSame a.val b.val c.val, Nat.le_of_ble_eq_true rfl, ⟨rfl, trivial⟩, .val rfl (.val rfl (.val rfl .nil)), rfl, rfl, rfl, farR_le base, farNews_le _ base, farNews_own _ base, fun B => ?_⟩
    cbv
    refine ⟨[.old 2, .old 3], ?_⟩
    cbv
    simp only [implies_true, and_true, true_and, IX.v_lit, IX.v_nat, IX.v_sy, BX.v_lit, BX.v_sy, NX.v_lit, NX.v_sy, addN, in_true, eq_self, Nat.succ_eq_add_one, intD_eq, encInt_le, encText_le, encSpan_le, encPair_le, encBox_le, encNote_le, encSight_le, cell_i_le, Nat.add_zero, Int.toNat_natCast, Nat.lt_irrefl, if_false, and_self, ncast, imp_self, in_self, in_self2, in_and, Int.cast_ofNat_Int, in_and2, ltB_t, ltB_f, leB_t, leB_f, eqB_t, eqB_f, ltNB_t, ltNB_f, leNB_t, leNB_f, eqNB_t, eqNB_f, noT, noF, Bool.and_eq_true, Bool.or_eq_true, Bool.and_eq_false_iff, Bool.or_eq_false_iff]
    all_goals exact ⟨rfl⟩
  · exact hs.elim
theorem okMoved : SpecOk F0 Tryz.prog 173 (spMove gMoved) := by
  refine spec_gen (e := en [(198, spFarNew)]) (en_ok ⟨okFarNew, trivial⟩) rfl (fn := Tryz.f173) (c := fbody Tryz.f173) (by kernel_rfl) rfl rfl (by kernel_rfl) (fun _ _ _ _ _ _ => rfl) fun args M base hs => ?_
  unfold spMove at hs ⊢
  split at hs
  · rename_i a b c
    refine ⟨[.agg [.i .i64 (.sy fun _ => a.val), .i .i64 (.sy fun _ => b.val), .i .i64 (.sy fun _ => c.val)]], [], farR, farNews fun _ => gMoved a.val b.val c.val, Nat.le_of_ble_eq_true rfl, ⟨rfl, trivial⟩, .val rfl (.val rfl (.val rfl .nil)), rfl, rfl, rfl, farR_le base, farNews_le _ base, farNews_own _ base, fun B => ?_⟩
    cbv
    refine ⟨[.old 2, .old 3], ?_⟩
    cbv
    simp only [implies_true, and_true, true_and, IX.v_lit, IX.v_nat, IX.v_sy, BX.v_lit, BX.v_sy, NX.v_lit, NX.v_sy, addN, in_true, eq_self, Nat.succ_eq_add_one, intD_eq, encInt_le, encText_le, encSpan_le, encPair_le, encBox_le, encNote_le, encSight_le, cell_i_le, Nat.add_zero, Int.toNat_natCast, Nat.lt_irrefl, if_false, and_self, ncast, imp_self, in_self, in_self2, in_and, Int.cast_ofNat_Int, in_and2, ltB_t, ltB_f, leB_t, leB_f, eqB_t, eqB_f, ltNB_t, ltNB_f, leNB_t, leNB_f, eqNB_t, eqNB_f, noT, noF, Bool.and_eq_true, Bool.or_eq_true, Bool.and_eq_false_iff, Bool.or_eq_false_iff]
    all_goals exact ⟨rfl⟩
  · exact hs.elim
theorem okReplaced : SpecOk F0 Tryz.prog 174 (spMove gReplaced) := by
  refine spec_gen (e := en [(198, spFarNew)]) (en_ok ⟨okFarNew, trivial⟩) rfl (fn := Tryz.f174) (c := fbody Tryz.f174) (by kernel_rfl) rfl rfl (by kernel_rfl) (fun _ _ _ _ _ _ => rfl) fun args M base hs => ?_
  unfold spMove at hs ⊢
  split at hs
  · rename_i a b c
    refine ⟨[.agg [.i .i64 (.sy fun _ => a.val), .i .i64 (.sy fun _ => b.val), .i .i64 (.sy fun _ => c.val)]], [], farR, farNews fun _ => gReplaced a.val b.val c.val, Nat.le_of_ble_eq_true rfl, ⟨rfl, trivial⟩, .val rfl (.val rfl (.val rfl .nil)), rfl, rfl, rfl, farR_le base, farNews_le _ base, farNews_own _ base, fun B => ?_⟩
    cbv
    refine ⟨[.old 2, .old 3], ?_⟩
    cbv
    simp only [implies_true, and_true, true_and, IX.v_lit, IX.v_nat, IX.v_sy, BX.v_lit, BX.v_sy, NX.v_lit, NX.v_sy, addN, in_true, eq_self, Nat.succ_eq_add_one, intD_eq, encInt_le, encText_le, encSpan_le, encPair_le, encBox_le, encNote_le, encSight_le, cell_i_le, Nat.add_zero, Int.toNat_natCast, Nat.lt_irrefl, if_false, and_self, ncast, imp_self, in_self, in_self2, in_and, Int.cast_ofNat_Int, in_and2, ltB_t, ltB_f, leB_t, leB_f, eqB_t, eqB_f, ltNB_t, ltNB_f, leNB_t, leNB_f, eqNB_t, eqNB_f, noT, noF, Bool.and_eq_true, Bool.or_eq_true, Bool.and_eq_false_iff, Bool.or_eq_false_iff]
    all_goals exact ⟨rfl⟩
  · exact hs.elim
def spReaches : Spec := fun args _ _ => match args with
  | [] => gives True (.agg [.c (.func (.func 172) #[] #[]), .c (.func (.func 173) #[] #[]), .c (.func (.func 174) #[] #[])])
  | _ => bad
theorem okReaches : SpecOk F0 Tryz.prog 139 spReaches := by
  refine spec_pure (e := en []) (en_ok trivial) rfl (fn := Tryz.f139) (c := fbody Tryz.f139) (by kernel_rfl) rfl rfl (by kernel_rfl) (fun _ _ _ _ => rfl) fun args M base hs => ?_
  unfold spReaches at hs ⊢
  split at hs
  · refine ⟨Nat.le_of_ble_eq_true rfl, rfl, rfl, rfl, rfl, fun B => ?_⟩
    cbv
  · exact hs.elim

def farBy (st pl kd : Int) : Int := if kd = 0 then 0 else if kd = 1 then st else pl
def atK (k : Nat) (v : IX) (e : Nat) : List CV := if e = k then [.i .i64 v] else [.top]
/-- A row of numbers of which one alone is known. -/
theorem atK_le (xs : List Int) (k : Nat) (v : IX) (h : v.val = xs.getD k 0) : ObLe (fun i => some (.old i)) (intRow .ro xs) (.row .ro 3 1 (.sy (fun _ => xs.length) 0) (atK k v)) := by
  refine ⟨trivial, trivial, trivial, ⟨rfl⟩, ⟨fun e _ => ?_⟩⟩
  unfold atK
  split
  · rename_i h'
    subst h'
    refine ⟨⟨trivial, ?_⟩, trivial⟩
    show eqIP (.sy fun _ => xs.getD e 0) v
    cases v <;> exact ⟨h⟩
  · exact ⟨trivial, trivial⟩
def okKind (n : Int) : Prop := n = 0 ∨ n = 1 ∨ n = 2
/-- A course that is seen: at a place. -/
def okAt (M : Mem) (c : CV) (k : Int) : Prop := okInts M c ∧ (ints M c).length ≤ 140737488355328 ∧ 0 ≤ k ∧ k < (ints M c).length ∧ okKind ((ints M c).getD k.toNat 0)
theorem okAt_row {M : Mem} {c : CV} {cs : List Int} {r : List Nat} {k : Nat} (h : seen M c = ⟨True, .sy (fun _ => cs.length) 0, 1, fun e => encInt fun _ => cs.getD e intD, r⟩) (h1 : cs.length ≤ 140737488355328) (h2 : k < cs.length) (h3 : okKind (cs.getD k 0)) : okAt M c (k : Int) := by
  have e : ints M c = cs := by unfold ints; rw [h]; exact int_row _ _ _ _
  refine ⟨?_, by rw [e]; exact h1, by omega, by rw [e]; omega, by rw [e, Int.toNat_natCast]; exact h3⟩
  unfold okInts
  rw [h]
  exact int_ok _ _
def spGap : Spec := fun args M base => match args with
  | [.one (.i .i64 k), .one (.ref b1), .one (.ref b2)] => match M b1, M b2 with
    | some (.box _ _ [c]), some (.box _ _ [.i .i64 st, .i .i64 pl, .i .i64 sk, _, _]) =>
      ⟨In fun _ => okAt M c k.val, farR base, farNews (fun _ => farBy st.val pl.val ((ints M c).getD k.val.toNat 0)) base, [], b1 :: b2 :: (seen M c).reads⟩
    | _, _ => bad
  | _ => bad
theorem okGap : SpecOk F0 Tryz.prog 138 spGap := by
  refine spec_gen (e := en [(139, spReaches), (172, spMove gSame), (173, spMove gMoved), (174, spMove gReplaced)]) (en_ok ⟨okReaches, okSame, okMoved, okReplaced, trivial⟩) rfl (fn := Tryz.f138) (c := fbody Tryz.f138) (by kernel_rfl) rfl rfl (by kernel_rfl) ?_ fun args M base hs => ?_
  · intro args M M' base hs h
    unfold spGap at *
    split at hs
    · simp only at h hs ⊢
      split at hs
      · rename_i h1 h2
        simp only [h1, h2] at h
        have e1 := h _ (List.mem_cons_self ..)
        have e2 := h _ (List.mem_cons_of_mem _ (List.mem_cons_self ..))
        rw [e1, e2, h1, h2]
        simp only [okAt, okInts, ints]
        rw [seen_congr (M := M) (M' := M') (fun i hi => h i (List.mem_cons_of_mem _ (List.mem_cons_of_mem _ hi)))]
      · exact hs.elim
    · exact hs.elim
  · unfold spGap at hs ⊢
    split at hs
    · split at hs
      · rename_i k b1 b2 _ _ o1 t1 c o2 t2 st pl sk c4 c5 h1 h2
        obtain ⟨ha, hb, hc, hd, hk⟩ := hs.ok
        clear hs
        simp only [h1, h2]
        have main : ∀ v : Int, okKind v → (ints M c).getD k.val.toNat 0 = v → ∀ B, vc (en [(139, spReaches), (172, spMove gSame), (173, spMove gMoved), (174, spMove gReplaced)]) ⟨fun _ => none, B, fun _ => False, Tryz.f138.ntmps, none⟩ (fbody Tryz.f138) (start [.one (.i .i64 (.sy fun _ => k.val)), .one (.ref 0), .one (.ref 2)] [.box false t1 [.ref 1], .row .ro 3 1 (.sy (fun _ => (ints M c).length) 0) (atK k.val.toNat (.lit v)), .box false t2 [.i .i64 (.sy fun _ => st.val), .i .i64 (.sy fun _ => pl.val), .i .i64 (.sy fun _ => sk.val), .top, .top]]) fun x s => isRet x ∧ (resultI tab Tryz.f138.results.toList s.S.get (lget s.M)).1 ∧ ∃ js, FinBy tab Tryz.f138.results.toList js s (farR 0) (farNews (fun _ => farBy st.val pl.val ((ints M c).getD k.val.toNat 0)) 0) := by
          intro v hv hval B
          rw [hval]
          generalize ints M c = xs at *
          rcases hv with rfl | rfl | rfl
          all_goals
            cbv
            simp only [implies_true, and_true, true_and, IX.v_lit, IX.v_nat, IX.v_sy, BX.v_lit, BX.v_sy, NX.v_lit, NX.v_sy, addN, in_true, eq_self, Nat.succ_eq_add_one, intD_eq, encInt_le, encText_le, encSpan_le, encPair_le, encBox_le, encNote_le, encSight_le, cell_i_le, Nat.add_zero, Int.toNat_natCast, Nat.lt_irrefl, if_false, and_self, ncast, imp_self, in_self, in_self2, in_and, Int.cast_ofNat_Int, in_and2, ltB_t, ltB_f, leB_t, leB_f, eqB_t, eqB_f, ltNB_t, ltNB_f, leNB_t, leNB_f, eqNB_t, eqNB_f, noT, noF, Bool.and_eq_true, Bool.or_eq_true, Bool.and_eq_false_iff, Bool.or_eq_false_iff]
            refine ⟨⟨⟨hc⟩, ⟨hd⟩⟩, ⟨by (first | omega | (simp only [ncast] at *; omega))⟩, ⟨by kernel_rfl⟩, [.old 4, .old 5], ?_⟩
            cbv
            simp only [implies_true, and_true, true_and, IX.v_lit, IX.v_nat, IX.v_sy, BX.v_lit, BX.v_sy, NX.v_lit, NX.v_sy, addN, in_true, eq_self, Nat.succ_eq_add_one, intD_eq, encInt_le, encText_le, encSpan_le, encPair_le, encBox_le, encNote_le, encSight_le, cell_i_le, Nat.add_zero, Int.toNat_natCast, Nat.lt_irrefl, if_false, and_self, ncast, imp_self, in_self, in_self2, in_and, Int.cast_ofNat_Int, in_and2, ltB_t, ltB_f, leB_t, leB_f, eqB_t, eqB_f, ltNB_t, ltNB_f, leNB_t, leNB_f, eqNB_t, eqNB_f, noT, noF, Bool.and_eq_true, Bool.or_eq_true, Bool.and_eq_false_iff, Bool.or_eq_false_iff]
            all_goals exact ⟨rfl⟩
        refine ⟨[.one (.i .i64 (.sy fun _ => k.val)), .one (.ref 0), .one (.ref 2)], [.box false t1 [.ref 1], .row .ro 3 1 (.sy (fun _ => (ints M c).length) 0) (atK k.val.toNat (.lit ((ints M c).getD k.val.toNat 0))), .box false t2 [.i .i64 (.sy fun _ => st.val), .i .i64 (.sy fun _ => pl.val), .i .i64 (.sy fun _ => sk.val), .top, .top]], farR, farNews _, Nat.le_of_ble_eq_true rfl, trivial, .val rfl (.box h1 (.weak (int_from ha) (atK_le _ _ _ rfl) .nil) (.box h2 (.val rfl (.val rfl (.val rfl (.any (.any .nil))))) .nil)), rfl, rfl, trivial, farR_le base, farNews_le _ base, farNews_own _ base, main _ hk rfl⟩
      · exact hs.elim
    · exact hs.elim

/-! ### What is bounded -/
def spOf (pos : Nat) : Spec := fun args _ _ => match args with
  | [.agg [.i .i64 id, .i .i64 yr, .i .i64 x0, .i .i64 x1, .i .i64 y0, .i .i64 y1, .s ls, .i .i64 lo, .i .i64 hi]] => gives True (.agg (match pos with
    | 0 => [.i .i64 (.sy fun _ => x0.val), .i .i64 (.sy fun _ => x1.val)]
    | 1 => [.i .i64 (.sy fun _ => y0.val), .i .i64 (.sy fun _ => y1.val)]
    | _ => [.i .i64 (.sy fun _ => lo.val), .i .i64 (.sy fun _ => hi.val)]))
  | _ => bad
theorem okOfX : SpecOk F0 Tryz.prog 141 (spOf 0) := by
  refine spec_pure (e := en []) (en_ok trivial) rfl (fn := Tryz.f141) (c := fbody Tryz.f141) (by kernel_rfl) rfl rfl (by kernel_rfl) (fun _ _ _ _ => rfl) fun args M base hs => ?_
  unfold spOf at hs ⊢
  split at hs
  · refine ⟨Nat.le_of_ble_eq_true rfl, rfl, rfl, rfl, rfl, fun B => ?_⟩
    cbv
    simp only [implies_true, and_true, true_and, IX.v_lit, IX.v_nat, IX.v_sy, BX.v_lit, BX.v_sy, NX.v_lit, NX.v_sy, addN, in_true, eq_self, Nat.succ_eq_add_one, intD_eq, encInt_le, encText_le, encSpan_le, encPair_le, encBox_le, encNote_le, encSight_le, cell_i_le, Nat.add_zero, Int.toNat_natCast, Nat.lt_irrefl, if_false, and_self, ncast, imp_self, in_self, in_self2, in_and, Int.cast_ofNat_Int, in_and2, ltB_t, ltB_f, leB_t, leB_f, eqB_t, eqB_f, ltNB_t, ltNB_f, leNB_t, leNB_f, eqNB_t, eqNB_f, noT, noF, Bool.and_eq_true, Bool.or_eq_true, Bool.and_eq_false_iff, Bool.or_eq_false_iff]
  · exact hs.elim
theorem okOfY : SpecOk F0 Tryz.prog 142 (spOf 1) := by
  refine spec_pure (e := en []) (en_ok trivial) rfl (fn := Tryz.f142) (c := fbody Tryz.f142) (by kernel_rfl) rfl rfl (by kernel_rfl) (fun _ _ _ _ => rfl) fun args M base hs => ?_
  unfold spOf at hs ⊢
  split at hs
  · refine ⟨Nat.le_of_ble_eq_true rfl, rfl, rfl, rfl, rfl, fun B => ?_⟩
    cbv
    simp only [implies_true, and_true, true_and, IX.v_lit, IX.v_nat, IX.v_sy, BX.v_lit, BX.v_sy, NX.v_lit, NX.v_sy, addN, in_true, eq_self, Nat.succ_eq_add_one, intD_eq, encInt_le, encText_le, encSpan_le, encPair_le, encBox_le, encNote_le, encSight_le, cell_i_le, Nat.add_zero, Int.toNat_natCast, Nat.lt_irrefl, if_false, and_self, ncast, imp_self, in_self, in_self2, in_and, Int.cast_ofNat_Int, in_and2, ltB_t, ltB_f, leB_t, leB_f, eqB_t, eqB_f, ltNB_t, ltNB_f, leNB_t, leNB_f, eqNB_t, eqNB_f, noT, noF, Bool.and_eq_true, Bool.or_eq_true, Bool.and_eq_false_iff, Bool.or_eq_false_iff]
  · exact hs.elim
theorem okOfH : SpecOk F0 Tryz.prog 143 (spOf 2) := by
  refine spec_pure (e := en []) (en_ok trivial) rfl (fn := Tryz.f143) (c := fbody Tryz.f143) (by kernel_rfl) rfl rfl (by kernel_rfl) (fun _ _ _ _ => rfl) fun args M base hs => ?_
  unfold spOf at hs ⊢
  split at hs
  · refine ⟨Nat.le_of_ble_eq_true rfl, rfl, rfl, rfl, rfl, fun B => ?_⟩
    cbv
    simp only [implies_true, and_true, true_and, IX.v_lit, IX.v_nat, IX.v_sy, BX.v_lit, BX.v_sy, NX.v_lit, NX.v_sy, addN, in_true, eq_self, Nat.succ_eq_add_one, intD_eq, encInt_le, encText_le, encSpan_le, encPair_le, encBox_le, encNote_le, encSight_le, cell_i_le, Nat.add_zero, Int.toNat_natCast, Nat.lt_irrefl, if_false, and_self, ncast, imp_self, in_self, in_self2, in_and, Int.cast_ofNat_Int, in_and2, ltB_t, ltB_f, leB_t, leB_f, eqB_t, eqB_f, ltNB_t, ltNB_f, leNB_t, leNB_f, eqNB_t, eqNB_f, noT, noF, Bool.and_eq_true, Bool.or_eq_true, Bool.and_eq_false_iff, Bool.or_eq_false_iff]
  · exact hs.elim

/-! ### Heights -/
def spAllH : Spec := fun args _ _ => match args with
  | [.agg [.i .i64 lo, .i .i64 hi], .one (.i .i64 y)] => gives True (.agg [.i .i64 (.lit 0), .i .i64 (.lit 100)])
  | _ => bad
theorem okAllH : SpecOk F0 Tryz.prog 177 spAllH := by
  refine spec_pure (e := en []) (en_ok trivial) rfl (fn := Tryz.f177) (c := fbody Tryz.f177) (by kernel_rfl) rfl rfl (by kernel_rfl) (fun _ _ _ _ => rfl) fun args M base hs => ?_
  unfold spAllH at hs ⊢
  split at hs
  · refine ⟨Nat.le_of_ble_eq_true rfl, rfl, rfl, rfl, rfl, fun B => ?_⟩
    cbv
  · exact hs.elim
def spSinkOn : Spec := fun args M _ => match args with
  | [.agg [.i .i64 lo, .i .i64 hi], .one (.i .i64 y), .one (.ref b)] => match M b with
    | some (.box o t [.i .i64 st, .i .i64 pl, .i .i64 sk]) => ⟨In fun _ => fitsK .i64 (sk.val * y.val) ∧ fitsK .i64 (lo.val - sk.val * y.val), .agg [.i .i64 (.sy fun _ => lo.val - sk.val * y.val), .i .i64 (.sy fun _ => hi.val)], [], [], [b]⟩
    | _ => bad
  | _ => bad
theorem okSinkOn : SpecOk F0 Tryz.prog 178 spSinkOn := by
  refine spec_val (e := en []) (en_ok trivial) rfl (fn := Tryz.f178) (c := fbody Tryz.f178) (by kernel_rfl) rfl rfl (by kernel_rfl) ?_ fun args M base hs => ?_
  · intro args M M' base hs h
    unfold spSinkOn at *
    split at hs
    · simp only at h hs ⊢
      split at hs
      · rename_i hM
        simp only [hM] at h
        rw [h _ (List.mem_singleton.2 rfl), hM]
      · exact hs.elim
    · exact hs.elim
  · unfold spSinkOn at hs ⊢
    split at hs
    · split at hs
      · rename_i lo hi y b _ o t st pl sk hM
        simp only [hM]
        refine ⟨[.agg [.i .i64 (.sy fun _ => lo.val), .i .i64 (.sy fun _ => hi.val)], .one (.i .i64 (.sy fun _ => y.val)), .one (.ref 0)], [.box false t [.i .i64 (.sy fun _ => st.val), .i .i64 (.sy fun _ => pl.val), .i .i64 (.sy fun _ => sk.val)]], Nat.le_of_ble_eq_true rfl, ⟨rfl, trivial⟩, .val rfl (.val rfl (.val rfl (.box hM (.val rfl (.val rfl (.val rfl .nil))) .nil))), rfl, trivial, trivial, fun B => ?_⟩
        cbv
        simp only [implies_true, and_true, true_and, IX.v_lit, IX.v_nat, IX.v_sy, BX.v_lit, BX.v_sy, NX.v_lit, NX.v_sy, addN, in_true, eq_self, Nat.succ_eq_add_one, intD_eq, encInt_le, encText_le, encSpan_le, encPair_le, encBox_le, encNote_le, encSight_le, cell_i_le, Nat.add_zero, Int.toNat_natCast, Nat.lt_irrefl, if_false, and_self, ncast, imp_self, in_self, in_self2, in_and, Int.cast_ofNat_Int, in_and2, ltB_t, ltB_f, leB_t, leB_f, eqB_t, eqB_f, ltNB_t, ltNB_f, leNB_t, leNB_f, eqNB_t, eqNB_f, noT, noF, Bool.and_eq_true, Bool.or_eq_true, Bool.and_eq_false_iff, Bool.or_eq_false_iff]
        exact ⟨⟨hs.ok.1⟩, ⟨hs.ok.2⟩⟩
      · exact hs.elim
    · exact hs.elim
def spSinkBack : Spec := fun args M _ => match args with
  | [.agg [.i .i64 lo, .i .i64 hi], .one (.i .i64 y), .one (.ref b)] => match M b with
    | some (.box o t [.i .i64 st, .i .i64 pl, .i .i64 sk]) => ⟨In fun _ => fitsK .i64 (sk.val * y.val) ∧ fitsK .i64 (hi.val + sk.val * y.val), .agg [.i .i64 (.sy fun _ => lo.val), .i .i64 (.sy fun _ => hi.val + sk.val * y.val)], [], [], [b]⟩
    | _ => bad
  | _ => bad
theorem okSinkBack : SpecOk F0 Tryz.prog 179 spSinkBack := by
  refine spec_val (e := en []) (en_ok trivial) rfl (fn := Tryz.f179) (c := fbody Tryz.f179) (by kernel_rfl) rfl rfl (by kernel_rfl) ?_ fun args M base hs => ?_
  · intro args M M' base hs h
    unfold spSinkBack at *
    split at hs
    · simp only at h hs ⊢
      split at hs
      · rename_i hM
        simp only [hM] at h
        rw [h _ (List.mem_singleton.2 rfl), hM]
      · exact hs.elim
    · exact hs.elim
  · unfold spSinkBack at hs ⊢
    split at hs
    · split at hs
      · rename_i lo hi y b _ o t st pl sk hM
        simp only [hM]
        refine ⟨[.agg [.i .i64 (.sy fun _ => lo.val), .i .i64 (.sy fun _ => hi.val)], .one (.i .i64 (.sy fun _ => y.val)), .one (.ref 0)], [.box false t [.i .i64 (.sy fun _ => st.val), .i .i64 (.sy fun _ => pl.val), .i .i64 (.sy fun _ => sk.val)]], Nat.le_of_ble_eq_true rfl, ⟨rfl, trivial⟩, .val rfl (.val rfl (.val rfl (.box hM (.val rfl (.val rfl (.val rfl .nil))) .nil))), rfl, trivial, trivial, fun B => ?_⟩
        cbv
        simp only [implies_true, and_true, true_and, IX.v_lit, IX.v_nat, IX.v_sy, BX.v_lit, BX.v_sy, NX.v_lit, NX.v_sy, addN, in_true, eq_self, Nat.succ_eq_add_one, intD_eq, encInt_le, encText_le, encSpan_le, encPair_le, encBox_le, encNote_le, encSight_le, cell_i_le, Nat.add_zero, Int.toNat_natCast, Nat.lt_irrefl, if_false, and_self, ncast, imp_self, in_self, in_self2, in_and, Int.cast_ofNat_Int, in_and2, ltB_t, ltB_f, leB_t, leB_f, eqB_t, eqB_f, ltNB_t, ltNB_f, leNB_t, leNB_f, eqNB_t, eqNB_f, noT, noF, Bool.and_eq_true, Bool.or_eq_true, Bool.and_eq_false_iff, Bool.or_eq_false_iff]
        exact ⟨⟨hs.ok.1⟩, ⟨hs.ok.2⟩⟩
      · exact hs.elim
    · exact hs.elim
/-- What a gap does to heights: by whether the course is the same. -/
def hNews (st pl sk : Unit → Int) (same : Bool) (base : Nat) : List Ob := match same with
  | true => [.box true 23 [.i .i64 (.sy st), .i .i64 (.sy pl), .i .i64 (.sy sk)], .clo (.func 178) [] [.ref base], .clo (.func 179) [] [.ref base]]
  | false => []
def hR (same : Bool) (base : Nat) : IV := match same with
  | true => .agg [.ref (base + 1), .ref (base + 2)]
  | false => .agg [.c (.func (.func 177) #[] #[]), .c (.func (.func 177) #[] #[])]
theorem hR_le (st pl sk : Unit → Int) (same : Bool) (base : Nat) : IvLe (tauN base (hNews st pl sk same 0).length) (hR same 0) (hR same base) := by
  cases same with
  | true => exact ⟨tauN_at (t := 1) (by simp [hNews]), tauN_at (t := 2) (by simp [hNews]), trivial⟩
  | false => exact ⟨rfl, rfl, trivial⟩
theorem hNews_le (st pl sk : Unit → Int) (same : Bool) (base : Nat) : All2 (ObLe (tauN base (hNews st pl sk same 0).length)) (hNews st pl sk same 0) (hNews st pl sk same base) := by
  cases same with
  | true => exact ⟨⟨trivial, trivial, ⟨trivial, ⟨rfl⟩⟩, ⟨trivial, ⟨rfl⟩⟩, ⟨trivial, ⟨rfl⟩⟩, trivial⟩, ⟨rfl, trivial, tauN_at (t := 0) (by simp [hNews]), trivial⟩, ⟨rfl, trivial, tauN_at (t := 0) (by simp [hNews]), trivial⟩, trivial⟩
  | false => trivial
theorem hNews_own (st pl sk : Unit → Int) (same : Bool) (base : Nat) : ∀ ob ∈ hNews st pl sk same base, ob.own = true ∨ ¬ ob.occ := by
  cases same with
  | true =>
    intro ob h
    rcases List.mem_cons.1 h with e | h
    · subst e; exact .inl rfl
    · rcases List.mem_cons.1 h with e | h
      · subst e; exact .inr id
      · rcases List.mem_cons.1 h with e | h
        · subst e; exact .inr id
        · cases h
  | false => intro ob h; cases h
/-- sameOf: which courses are the same, by their number in cells. -/
def litB (k : IX) (same : Int → Bool) : Bool := match k with
  | .lit n => same n
  | .nat f a => same ((addN (f ()) a : Nat) : Int)
  | .sy f => same (f ())
theorem litB_eq (k : IX) (same : Int → Bool) : litB k same = same k.val := by cases k <;> rfl
def spHeight (same : Int → Bool) : Spec := fun args _ base => match args with
  | [.agg [.i .i64 st, .i .i64 pl, .i .i64 sk], .one (.i .i64 k)] => ⟨In fun _ => same k.val = decide (k.val = 0), hR (litB k same) base, hNews (fun _ => st.val) (fun _ => pl.val) (fun _ => sk.val) (litB k same) base, [], []⟩
  | _ => bad
theorem okHeight (same : Int → Bool) : SpecOk F0 Tryz.prog 145 (spHeight same) := by
  refine spec_gen (e := en []) (en_ok trivial) rfl (fn := Tryz.f145) (c := fbody Tryz.f145) (by kernel_rfl) rfl rfl (by kernel_rfl) (fun _ _ _ _ _ _ => rfl) fun args M base hs => ?_
  unfold spHeight at hs ⊢
  split at hs
  · rename_i st pl sk k
    have hk : litB k same = decide (k.val = 0) := (litB_eq k same).trans hs.ok
    clear hs
    simp only [hk]
    refine ⟨[.agg [.i .i64 (.sy fun _ => st.val), .i .i64 (.sy fun _ => pl.val), .i .i64 (.sy fun _ => sk.val)], .one (.i .i64 (.sy fun _ => k.val))], [], hR (decide (k.val = 0)), hNews _ _ _ (decide (k.val = 0)), Nat.le_of_ble_eq_true rfl, ⟨rfl, trivial⟩, .val rfl (.val rfl (.val rfl (.val rfl .nil))), rfl, rfl, trivial, hR_le _ _ _ _ _, hNews_le _ _ _ _ _, hNews_own _ _ _ _ _, fun B => ?_⟩
    clear hk
    cases hk : decide (k.val = 0) with
    | true =>
      have hk := of_decide_eq_true hk
      cbv
      simp only [implies_true, and_true, true_and, IX.v_lit, IX.v_nat, IX.v_sy, BX.v_lit, BX.v_sy, NX.v_lit, NX.v_sy, addN, in_true, eq_self, Nat.succ_eq_add_one, intD_eq, encInt_le, encText_le, encSpan_le, encPair_le, encBox_le, encNote_le, encSight_le, cell_i_le, Nat.add_zero, Int.toNat_natCast, Nat.lt_irrefl, if_false, and_self, ncast, imp_self, in_self, in_self2, in_and, Int.cast_ofNat_Int, in_and2, ltB_t, ltB_f, leB_t, leB_f, eqB_t, eqB_f, ltNB_t, ltNB_f, leNB_t, leNB_f, eqNB_t, eqNB_f, noT, noF, Bool.and_eq_true, Bool.or_eq_true, Bool.and_eq_false_iff, Bool.or_eq_false_iff]
      refine ⟨fun h => absurd hk h, fun _ => ?_⟩
      cbv
      refine ⟨[.old 0, .old 2, .old 3], ?_⟩
      cbv
      simp only [implies_true, and_true, true_and, IX.v_lit, IX.v_nat, IX.v_sy, BX.v_lit, BX.v_sy, NX.v_lit, NX.v_sy, addN, in_true, eq_self, Nat.succ_eq_add_one, intD_eq, encInt_le, encText_le, encSpan_le, encPair_le, encBox_le, encNote_le, encSight_le, cell_i_le, Nat.add_zero, Int.toNat_natCast, Nat.lt_irrefl, if_false, and_self, ncast, imp_self, in_self, in_self2, in_and, Int.cast_ofNat_Int, in_and2, ltB_t, ltB_f, leB_t, leB_f, eqB_t, eqB_f, ltNB_t, ltNB_f, leNB_t, leNB_f, eqNB_t, eqNB_f, noT, noF, Bool.and_eq_true, Bool.or_eq_true, Bool.and_eq_false_iff, Bool.or_eq_false_iff]
    | false =>
      have hk := of_decide_eq_false hk
      cbv
      simp only [implies_true, and_true, true_and, IX.v_lit, IX.v_nat, IX.v_sy, BX.v_lit, BX.v_sy, NX.v_lit, NX.v_sy, addN, in_true, eq_self, Nat.succ_eq_add_one, intD_eq, encInt_le, encText_le, encSpan_le, encPair_le, encBox_le, encNote_le, encSight_le, cell_i_le, Nat.add_zero, Int.toNat_natCast, Nat.lt_irrefl, if_false, and_self, ncast, imp_self, in_self, in_self2, in_and, Int.cast_ofNat_Int, in_and2, ltB_t, ltB_f, leB_t, leB_f, eqB_t, eqB_f, ltNB_t, ltNB_f, leNB_t, leNB_f, eqNB_t, eqNB_f, noT, noF, Bool.and_eq_true, Bool.or_eq_true, Bool.and_eq_false_iff, Bool.or_eq_false_iff]
      refine ⟨fun h => ?_, fun h => absurd h hk⟩
      cbv
      refine ⟨[], ?_⟩
      cbv
  · exact hs.elim
def litN (k : NX) (same : Nat → Bool) : Bool := match k with
  | .lit n => same n
  | .sy f a => same (addN (f ()) a)
theorem litN_eq (k : NX) (same : Nat → Bool) : litN k same = same k.val := by cases k <;> rfl
def spGapH (same : Nat → Bool) : Spec := fun args M base => match args with
  | [.one (.i .i64 k), .one (.ref b2), .one (.ref b1)] => match M b1, M b2 with
    | some (.box _ _ [c]), some (.box _ _ [.i .i64 st, .i .i64 pl, .i .i64 sk, _, _]) =>
      ⟨In fun _ => okAt M c k.val ∧ same k.val.toNat = eqB ((ints M c).getD k.val.toNat 0) 0, hR (litN k.toNX same) base, hNews (fun _ => st.val) (fun _ => pl.val) (fun _ => sk.val) (litN k.toNX same) base, [], b1 :: b2 :: (seen M c).reads⟩
    | _, _ => bad
  | _ => bad
theorem okGapH (same : Nat → Bool) : SpecOk F0 Tryz.prog 144 (spGapH same) := by
  refine spec_gen (e := en [(145, spHeight fun v => decide (v = 0))]) (en_ok ⟨okHeight _, trivial⟩) rfl (fn := Tryz.f144) (c := fbody Tryz.f144) (by kernel_rfl) rfl rfl (by kernel_rfl) ?_ fun args M base hs => ?_
  · intro args M M' base hs h
    unfold spGapH at *
    split at hs
    · simp only at h hs ⊢
      split at hs
      · rename_i h1 h2
        simp only [h1, h2] at h
        have e1 := h _ (List.mem_cons_self ..)
        have e2 := h _ (List.mem_cons_of_mem _ (List.mem_cons_self ..))
        rw [e1, e2, h1, h2]
        simp only [okAt, okInts, ints]
        rw [seen_congr (M := M) (M' := M') (fun i hi => h i (List.mem_cons_of_mem _ (List.mem_cons_of_mem _ hi)))]
      · exact hs.elim
    · exact hs.elim
  · unfold spGapH at hs ⊢
    split at hs
    · split at hs
      · rename_i k b2 b1 _ _ o1 t1 c o2 t2 st pl sk c4 c5 h1 h2
        obtain ⟨⟨ha, hb, hc, hd, hk⟩, hsame⟩ := hs.ok
        clear hs
        have hL : litN k.toNX same = decide ((ints M c).getD k.val.toNat 0 = 0) := by rw [litN_eq, IX.toNX_val]; exact hsame
        simp only [h1, h2, hL]
        clear hL hsame
        have main : ∀ v : Int, okKind v → ∀ B, vc (en [(145, spHeight fun v => decide (v = 0))]) ⟨fun _ => none, B, fun _ => False, Tryz.f144.ntmps, none⟩ (fbody Tryz.f144) (start [.one (.i .i64 (.sy fun _ => k.val)), .one (.ref 0), .one (.ref 1)] [.box false t2 [.i .i64 (.sy fun _ => st.val), .i .i64 (.sy fun _ => pl.val), .i .i64 (.sy fun _ => sk.val), .top, .top], .box false t1 [.ref 2], .row .ro 3 1 (.sy (fun _ => (ints M c).length) 0) (atK k.val.toNat (.lit v))]) fun x s => isRet x ∧ (resultI tab Tryz.f144.results.toList s.S.get (lget s.M)).1 ∧ ∃ js, FinBy tab Tryz.f144.results.toList js s (hR (decide (v = 0)) 0) (hNews (fun _ => st.val) (fun _ => pl.val) (fun _ => sk.val) (decide (v = 0)) 0) := by
          intro v hv B
          generalize ints M c = xs at *
          rcases hv with rfl | rfl | rfl
          · cbv
            simp only [implies_true, and_true, true_and, IX.v_lit, IX.v_nat, IX.v_sy, BX.v_lit, BX.v_sy, NX.v_lit, NX.v_sy, addN, in_true, eq_self, Nat.succ_eq_add_one, intD_eq, encInt_le, encText_le, encSpan_le, encPair_le, encBox_le, encNote_le, encSight_le, cell_i_le, Nat.add_zero, Int.toNat_natCast, Nat.lt_irrefl, if_false, and_self, ncast, imp_self, in_self, in_self2, in_and, Int.cast_ofNat_Int, in_and2, ltB_t, ltB_f, leB_t, leB_f, eqB_t, eqB_f, ltNB_t, ltNB_f, leNB_t, leNB_f, eqNB_t, eqNB_f, noT, noF, Bool.and_eq_true, Bool.or_eq_true, Bool.and_eq_false_iff, Bool.or_eq_false_iff]
            refine ⟨⟨⟨hc⟩, ⟨hd⟩⟩, ⟨by (first | omega | (simp only [ncast] at *; omega))⟩, ⟨by kernel_rfl⟩, [.old 4, .old 5, .old 6], ?_⟩
            cbv
            simp only [implies_true, and_true, true_and, IX.v_lit, IX.v_nat, IX.v_sy, BX.v_lit, BX.v_sy, NX.v_lit, NX.v_sy, addN, in_true, eq_self, Nat.succ_eq_add_one, intD_eq, encInt_le, encText_le, encSpan_le, encPair_le, encBox_le, encNote_le, encSight_le, cell_i_le, Nat.add_zero, Int.toNat_natCast, Nat.lt_irrefl, if_false, and_self, ncast, imp_self, in_self, in_self2, in_and, Int.cast_ofNat_Int, in_and2, ltB_t, ltB_f, leB_t, leB_f, eqB_t, eqB_f, ltNB_t, ltNB_f, leNB_t, leNB_f, eqNB_t, eqNB_f, noT, noF, Bool.and_eq_true, Bool.or_eq_true, Bool.and_eq_false_iff, Bool.or_eq_false_iff]
          all_goals
            cbv
            simp only [implies_true, and_true, true_and, IX.v_lit, IX.v_nat, IX.v_sy, BX.v_lit, BX.v_sy, NX.v_lit, NX.v_sy, addN, in_true, eq_self, Nat.succ_eq_add_one, intD_eq, encInt_le, encText_le, encSpan_le, encPair_le, encBox_le, encNote_le, encSight_le, cell_i_le, Nat.add_zero, Int.toNat_natCast, Nat.lt_irrefl, if_false, and_self, ncast, imp_self, in_self, in_self2, in_and, Int.cast_ofNat_Int, in_and2, ltB_t, ltB_f, leB_t, leB_f, eqB_t, eqB_f, ltNB_t, ltNB_f, leNB_t, leNB_f, eqNB_t, eqNB_f, noT, noF, Bool.and_eq_true, Bool.or_eq_true, Bool.and_eq_false_iff, Bool.or_eq_false_iff]
            refine ⟨⟨⟨hc⟩, ⟨hd⟩⟩, ⟨by (first | omega | (simp only [ncast] at *; omega))⟩, ⟨by kernel_rfl⟩, [], ?_⟩
            cbv
        refine ⟨[.one (.i .i64 (.sy fun _ => k.val)), .one (.ref 0), .one (.ref 1)], [.box false t2 [.i .i64 (.sy fun _ => st.val), .i .i64 (.sy fun _ => pl.val), .i .i64 (.sy fun _ => sk.val), .top, .top], .box false t1 [.ref 2], .row .ro 3 1 (.sy (fun _ => (ints M c).length) 0) (atK k.val.toNat (.lit ((ints M c).getD k.val.toNat 0)))], hR _, hNews _ _ _ _, Nat.le_of_ble_eq_true rfl, trivial, .val rfl (.box h2 (.val rfl (.val rfl (.val rfl (.any (.any .nil))))) (.box h1 (.weak (int_from ha) (atK_le _ _ _ rfl) .nil) .nil)), rfl, rfl, trivial, hR_le _ _ _ _ _, hNews_le _ _ _ _ _, hNews_own _ _ _ _ _, main _ hk⟩
      · exact hs.elim
    · exact hs.elim
end Go.Proofs.YthgllnnlngihoaaGreat.Sx
end
section
set_option linter.unusedVariables false
set_option linter.unusedSimpArgs false
namespace Go.Proofs.YthgllnnlngihoaaGreat.Sx

def spAt (pos : Nat) (s : SightD) : SpanD := match pos with
  | 0 => ⟨s.x0, s.x1⟩
  | 1 => ⟨s.y0, s.y1⟩
  | _ => ⟨s.lo, s.hi⟩
/-- What a gap of a kind does to a span: from the sight before it to the one behind it; back. -/
def onS (pos : Nat) (st pl sk kd : Int) (s : SpanD) (y : Int) : SpanD := match pos with
  | 2 => if kd = 0 then ⟨s.lo - sk * y, s.hi⟩ else ⟨0, 100⟩
  | _ => ⟨s.lo - farBy st pl kd, s.hi + farBy st pl kd⟩
def backS (pos : Nat) (st pl sk kd : Int) (s : SpanD) (y : Int) : SpanD := match pos with
  | 2 => if kd = 0 then ⟨s.lo, s.hi + sk * y⟩ else ⟨0, 100⟩
  | _ => ⟨s.lo - farBy st pl kd, s.hi + farBy st pl kd⟩
def bothS (a b : SpanD) : SpanD := ⟨max a.lo b.lo, min a.hi b.hi⟩
def sightAt (ss : List SightD) (k : Nat) : SightD := ss.getD k sightD
def kindAt (cs : List Int) (k : Nat) : Int := cs.getD k 0
section
variable (pos : Nat) (st pl sk : Int) (ss : List SightD) (cs : List Int)
def fwd : Nat → SpanD
  | 0 => spAt pos (sightAt ss 0)
  | k + 1 => bothS (spAt pos (sightAt ss (k + 1))) (onS pos st pl sk (kindAt cs k) (fwd k) (yearAt ss (k + 1) - yearAt ss k))
/-- .. at the j-th sight from the end. -/
def bw (n : Nat) : Nat → SpanD
  | 0 => fwd pos st pl sk ss cs (n - 1)
  | j + 1 => bothS (fwd pos st pl sk ss cs (n - 1 - (j + 1))) (backS pos st pl sk (kindAt cs (n - 1 - (j + 1))) (bw n j) (yearAt ss (n - 1 - j) - yearAt ss (n - 1 - (j + 1))))
def fullTo (n : Nat) : Bool := (List.range n).all fun k => decide ((fwd pos st pl sk ss cs k).lo ≤ (fwd pos st pl sk ss cs k).hi)
def thruOk : Bool := fullTo pos st pl sk ss cs (ss.length)
def thruAt (k : Nat) : SpanD := bw pos st pl sk ss cs (ss.length) (ss.length - 1 - k)
def thruL : List SpanD := (List.range (ss.length)).map (thruAt pos st pl sk ss cs)
end

/-! ### Bounds -/
def inC (n : Int) : Prop := -1048576 ≤ n ∧ n ≤ 1048576
def spanIn (s : SpanD) : Prop := inC s.lo ∧ inC s.hi
structure HabitOk (st pl sk : Int) : Prop where
  st : 0 ≤ st ∧ st ≤ 10000
  pl : 0 ≤ pl ∧ pl ≤ 10000
  sk : 0 ≤ sk ∧ sk ≤ 20
structure LifeOk (ss : List SightD) : Prop where
  spans : ∀ pos k, k < ss.length → spanIn (spAt pos (sightAt ss k))
  high : ∀ k, k < ss.length → 0 ≤ (sightAt ss k).lo ∧ (sightAt ss k).hi ≤ 100
  years : ∀ k, k < ss.length → 0 ≤ yearAt ss k ∧ yearAt ss k ≤ 4000
  rising : ∀ k, k + 1 < ss.length → yearAt ss k < yearAt ss (k + 1)
def KindsOk (cs : List Int) : Prop := ∀ k, k < cs.length → okKind (kindAt cs k)

theorem farBy_in {st pl sk kd : Int} (h : HabitOk st pl sk) : 0 ≤ farBy st pl kd ∧ farBy st pl kd ≤ 10000 := by
  unfold farBy
  have := h.st
  have := h.pl
  split
  · omega
  · split <;> omega
theorem mul_in {st pl sk y : Int} (h : HabitOk st pl sk) (hy : 0 ≤ y ∧ y ≤ 4000) : 0 ≤ sk * y ∧ sk * y ≤ 80000 := by
  have h1 := h.sk
  refine ⟨Int.mul_nonneg h1.1 hy.1, ?_⟩
  have := Int.mul_le_mul h1.2 hy.2 hy.1 (by omega : (0 : Int) ≤ 20)
  omega
section
variable {pos : Nat} {st pl sk : Int} {ss : List SightD} {cs : List Int}
theorem years_in (hl : LifeOk ss) {k : Nat} (hk : k + 1 < ss.length) : 0 ≤ yearAt ss (k + 1) - yearAt ss k ∧ yearAt ss (k + 1) - yearAt ss k ≤ 4000 := by
  have := hl.years k (by omega)
  have := hl.years (k + 1) hk
  have := hl.rising k hk
  omega
theorem bothS_in {a b : SpanD} (ha : spanIn a) (h1 : b.lo ≤ 1048576) (h2 : -1048576 ≤ b.hi) : spanIn (bothS a b) := by
  unfold spanIn inC bothS at *
  simp only
  omega
theorem onS_in (h : HabitOk st pl sk) {kd : Int} {s : SpanD} (hs : spanIn s) {y : Int} (hy : 0 ≤ y ∧ y ≤ 4000) : (onS pos st pl sk kd s y).lo ≤ 1048576 ∧ -1048576 ≤ (onS pos st pl sk kd s y).hi := by
  have h1 := farBy_in (kd := kd) h
  have h2 := mul_in h hy
  unfold spanIn inC at hs
  unfold onS
  split
  · split
    · simp only at *; omega
    · simp only at *; omega
  · simp only at *; omega
theorem backS_in (h : HabitOk st pl sk) {kd : Int} {s : SpanD} (hs : spanIn s) {y : Int} (hy : 0 ≤ y ∧ y ≤ 4000) : (backS pos st pl sk kd s y).lo ≤ 1048576 ∧ -1048576 ≤ (backS pos st pl sk kd s y).hi := by
  have h1 := farBy_in (kd := kd) h
  have h2 := mul_in h hy
  unfold spanIn inC at hs
  unfold backS
  split
  · split
    · simp only at *; omega
    · simp only at *; omega
  · simp only at *; omega
theorem fwd_in (h : HabitOk st pl sk) (hl : LifeOk ss) : ∀ k, k < ss.length → spanIn (fwd pos st pl sk ss cs k)
  | 0, hk => hl.spans pos 0 hk
  | k + 1, hk => by
    have ih := fwd_in h hl k (by omega)
    have := onS_in (pos := pos) (kd := kindAt cs k) h ih (years_in hl hk)
    exact bothS_in (hl.spans pos _ hk) this.1 this.2
theorem bw_in (h : HabitOk st pl sk) (hl : LifeOk ss) (hn : 0 < ss.length) : ∀ j, j < ss.length → spanIn (bw pos st pl sk ss cs (ss.length) j)
  | 0, hj => fwd_in h hl _ (by omega)
  | j + 1, hj => by
    have ih := bw_in h hl hn j (by omega)
    have hy := years_in hl (k := ss.length - 1 - (j + 1)) (by omega)
    rw [show ss.length - 1 - (j + 1) + 1 = ss.length - 1 - j by omega] at hy
    have := backS_in (pos := pos) (kd := kindAt cs (ss.length - 1 - (j + 1))) h ih hy
    exact bothS_in (fwd_in h hl _ (by omega)) this.1 this.2
theorem thru_in (h : HabitOk st pl sk) (hl : LifeOk ss) {k : Nat} (hk : k < ss.length) : spanIn (thruAt pos st pl sk ss cs k) := bw_in h hl (by omega) _ (by omega)
theorem fullTo_succ {n : Nat} : fullTo pos st pl sk ss cs (n + 1) = (fullTo pos st pl sk ss cs n && decide ((fwd pos st pl sk ss cs n).lo ≤ (fwd pos st pl sk ss cs n).hi)) := by
  unfold fullTo
  rw [List.range_succ, List.all_append]
  simp
theorem fullTo_no {n k : Nat} (hk : k < n) (h : (fwd pos st pl sk ss cs k).hi < (fwd pos st pl sk ss cs k).lo) : fullTo pos st pl sk ss cs n = false := by
  refine List.all_eq_false.2 ⟨k, List.mem_range.2 hk, ?_⟩
  simp
  omega
/-- What stands at a place while the way back is at m. -/
def wayAt (pos : Nat) (st pl sk : Int) (ss : List SightD) (cs : List Int) (m e : Nat) : SpanD := if e < m then fwd pos st pl sk ss cs e else thruAt pos st pl sk ss cs e
theorem mix_start {e : Nat} (he : e < ss.length) : wayAt pos st pl sk ss cs (ss.length - 1) e = fwd pos st pl sk ss cs e := by
  unfold wayAt
  split
  · rfl
  · rw [show e = ss.length - 1 by omega]
    unfold thruAt
    rw [show ss.length - 1 - (ss.length - 1) = 0 by omega, bw]
theorem mix_end {e : Nat} : wayAt pos st pl sk ss cs 0 e = thruAt pos st pl sk ss cs e := by
  unfold wayAt
  rw [if_neg (by omega)]
theorem mix_step {m : Nat} (hm : m + 1 < ss.length) : thruAt pos st pl sk ss cs m = bothS (fwd pos st pl sk ss cs m) (backS pos st pl sk (kindAt cs m) (thruAt pos st pl sk ss cs (m + 1)) (yearAt ss (m + 1) - yearAt ss m)) := by
  unfold thruAt
  rw [show ss.length - 1 - m = (ss.length - 1 - (m + 1)) + 1 by omega, bw, show ss.length - 1 - (ss.length - 1 - (m + 1) + 1) = m by omega, show ss.length - 1 - (ss.length - 1 - (m + 1)) = m + 1 by omega]
theorem mix_other {m e : Nat} (h : e ≠ m) : wayAt pos st pl sk ss cs m e = wayAt pos st pl sk ss cs (m + 1) e := by
  unfold wayAt
  by_cases h1 : e < m
  · rw [if_pos h1, if_pos (by omega)]
  · rw [if_neg h1, if_neg (by omega)]
end
def encS191 (a : Unit → SpanD) : List CV := [.i .i64 (.sy fun _ => (a ()).lo), .i .i64 (.sy fun _ => (a ()).hi)]
def s191D : SpanD := ⟨0, 0⟩
def s191Cod : Cod SpanD where
  t := 191
  k := 2
  enc := encS191
  dec l := match l with
    | [.i _ a, .i _ b] => ⟨a.val, b.val⟩
    | _ => ⟨0, 0⟩
  d := s191D
  kpos := by decide
  len _ := rfl
  closed _ := rfl
  back _ := rfl
def s191Row (md : Md) (xs : Unit → List SpanD) : Ob := .row md 191 2 (.sy (fun _ => (xs ()).length) 0) fun e => encS191 fun _ => (xs ()).getD e s191D
theorem encS191_le {τ : Nat → Option Src} (a) : All2 (CvLe τ) (encS191 a) (encS191 a) = True := eq_true (closedL_le rfl)
/-- Elements given by a function. -/
theorem getD_range {α : Type} (f : Nat → α) (d : α) {n e : Nat} (h : e < n) : ((List.range n).map f).getD e d = f e := by
  rw [List.getD_eq_getElem?_getD]
  simp [h]
theorem ln_range {α : Type} (f : Nat → α) (n : Nat) : ((List.range n).map f).length = n := by simp
def thruR (pos : Nat) (st pl sk : Int) (ss : List SightD) (cs : List Int) : List SpanD := bif thruOk pos st pl sk ss cs then thruL pos st pl sk ss cs else []
end Go.Proofs.YthgllnnlngihoaaGreat.Sx
end
