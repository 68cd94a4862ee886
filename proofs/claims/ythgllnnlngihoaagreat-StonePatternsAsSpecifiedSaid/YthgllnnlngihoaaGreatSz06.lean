/- Patterns: what the rest of the program says of them. (Printed by gen4.py.); Sights, told by the reference. (Printed by gen5.py.); Spans. (Printed by gen7.py.); Points in boxes. (Printed by gen8.py.); The law on patterns, all but what sanity says. (Printed by gen6.py.); Functions that read courses; Functions that read courses: the reference's; Functions that read lives; Notes. -/
import Derived.Test.YthgllnnlngihoaaGreatSz05
section
set_option linter.unusedVariables false
set_option linter.unusedSimpArgs false
set_option maxRecDepth 100000
namespace Go.Proofs.YthgllnnlngihoaaGreat.Sx
open Go.RowKit

def spAgree : Spec := fun args _ _ => match args with
  | [.one (.s p), .one (.s q)] => gives True (cbool (.sy fun _ => blendOk (p ()) (q ())))
  | _ => bad
theorem okAgree : SpecOk F0 Tryz.prog 40 spAgree := by
  refine spec_pure (e := en [(36, spBlend)]) (en_ok ⟨okBlend, trivial⟩) rfl (fn := Tryz.f40) (c := fbody Tryz.f40) (by kernel_rfl) rfl rfl (by kernel_rfl) (fun _ _ _ _ => rfl) fun args M base hs => ?_
  unfold spAgree at hs ⊢
  split at hs
  · refine ⟨Nat.le_of_ble_eq_true rfl, rfl, rfl, rfl, rfl, fun B => ?_⟩
    cbv
    simp only [implies_true, and_true, true_and, IX.v_lit, IX.v_nat, IX.v_sy, BX.v_lit, BX.v_sy, NX.v_lit, NX.v_sy, addN, in_true, eq_self, Nat.succ_eq_add_one, intD_eq, encInt_le, encText_le, encSpan_le, encPair_le, encBox_le, encNote_le, encSight_le, cell_i_le, Nat.add_zero, Int.toNat_natCast, Nat.lt_irrefl, if_false, and_self, ncast, imp_self, in_self, in_self2, in_and, Int.cast_ofNat_Int, in_and2, ltB_t, ltB_f, leB_t, leB_f, eqB_t, eqB_f, ltNB_t, ltNB_f, leNB_t, leNB_f, eqNB_t, eqNB_f, noT, noF, Bool.and_eq_true, Bool.or_eq_true, Bool.and_eq_false_iff, Bool.or_eq_false_iff]
    all_goals exact ⟨rfl⟩
  · exact hs.elim
def readsB (l p : ByteArray) : Bool := isPattern l false && blendOk l p
def spReads : Spec := fun args _ _ => match args with
  | [.one (.s p), .one (.s q)] => gives True (cbool (.sy fun _ => readsB (p ()) (q ())))
  | _ => bad
theorem okReads : SpecOk F0 Tryz.prog 38 spReads := by
  refine spec_pure (e := en [(40, spAgree), (100, spPattern)]) (en_ok ⟨okAgree, okPattern, trivial⟩) rfl (fn := Tryz.f38) (c := fbody Tryz.f38) (by kernel_rfl) rfl rfl (by kernel_rfl) (fun _ _ _ _ => rfl) fun args M base hs => ?_
  unfold spReads at hs ⊢
  split at hs
  · refine ⟨Nat.le_of_ble_eq_true rfl, rfl, rfl, rfl, rfl, fun B => ?_⟩
    cbv
    simp only [implies_true, and_true, true_and, IX.v_lit, IX.v_nat, IX.v_sy, BX.v_lit, BX.v_sy, NX.v_lit, NX.v_sy, addN, in_true, eq_self, Nat.succ_eq_add_one, intD_eq, encInt_le, encText_le, encSpan_le, encPair_le, encBox_le, encNote_le, encSight_le, cell_i_le, Nat.add_zero, Int.toNat_natCast, Nat.lt_irrefl, if_false, and_self, ncast, imp_self, in_self, in_self2, in_and, Int.cast_ofNat_Int, in_and2, ltB_t, ltB_f, leB_t, leB_f, eqB_t, eqB_f, ltNB_t, ltNB_f, leNB_t, leNB_f, eqNB_t, eqNB_f, noT, noF, Bool.and_eq_true, Bool.or_eq_true, Bool.and_eq_false_iff, Bool.or_eq_false_iff]
    all_goals exact ⟨rfl⟩
  · exact hs.elim
def spRefPattern : Spec := fun args _ _ => match args with
  | [.one (.s s)] => gives (In fun _ => (s ()).size ≤ 140737488355328) (cbool (.sy fun _ => isPattern (s ()) true))
  | _ => bad
def spRefAgree : Spec := fun args _ _ => match args with
  | [.one (.s p), .one (.s q)] => gives (In fun _ => (p ()).size ≤ 140737488355328 ∧ (q ()).size ≤ 140737488355328) (cbool (.sy fun _ => blendOk (p ()) (q ())))
  | _ => bad
def spRefReads : Spec := fun args _ _ => match args with
  | [.one (.s p), .one (.s q)] => gives (In fun _ => (p ()).size ≤ 140737488355328 ∧ (q ()).size ≤ 140737488355328) (cbool (.sy fun _ => readsB (p ()) (q ())))
  | _ => bad
def spRefBlend : Spec := fun args _ _ => match args with
  | [.one (.s p), .one (.s q)] => gives (In fun _ => (p ()).size ≤ 140737488355328 ∧ (q ()).size ≤ 140737488355328) (.tup [.one (.s (fun _ => (blendS (p ()) (q ())))), .one (.b (.sy fun _ => (blendOk (p ()) (q ()))))])
  | _ => bad
theorem okRefPattern : SpecOk F0 Tryz.prog 101 spRefPattern := by
  refine spec_pure (e := en []) (en_ok trivial) rfl (fn := Tryz.f101) (c := fbody Tryz.f101) (by kernel_rfl) rfl rfl (by kernel_rfl) (fun _ _ _ _ => rfl) fun args M base hs => ?_
  unfold spRefPattern at hs ⊢
  split at hs
  · refine ⟨Nat.le_of_ble_eq_true rfl, rfl, rfl, rfl, rfl, fun B => ?_⟩
    rename_i s
    obtain ⟨s, rfl⟩ : ∃ t, s = fun _ => t := ⟨s (), rfl⟩
    have hsz : s.size ≤ 140737488355328 := hs.ok
    cbv
    simp only [implies_true, and_true, true_and, IX.v_lit, IX.v_nat, IX.v_sy, BX.v_lit, BX.v_sy, NX.v_lit, NX.v_sy, addN, in_true, eq_self, Nat.succ_eq_add_one, intD_eq, encInt_le, encText_le, encSpan_le, encPair_le, encBox_le, encNote_le, encSight_le, cell_i_le, Nat.add_zero, Int.toNat_natCast, Nat.lt_irrefl, if_false, and_self, ncast, imp_self, in_self, in_self2, in_and, Int.cast_ofNat_Int, in_and2, ltB_t, ltB_f, leB_t, leB_f, eqB_t, eqB_f, ltNB_t, ltNB_f, leNB_t, leNB_f, eqNB_t, eqNB_f, noT, noF, Bool.and_eq_true, Bool.or_eq_true, Bool.and_eq_false_iff, Bool.or_eq_false_iff]
    refine ⟨{i : Nat // i ≤ s.size ∧ ∀ j, j < i → isLetter (byteAt s j) true = true}, fun i => ⟨[(0, .lit true, .one (.s fun _ => s)), (3, .lit true, cint .i64 (.nat (fun _ => i.1) 0))], [], 0⟩, fun i => s.size - i.1, ⟨0, by omega, fun j hj => by omega⟩, LeBy.le (pins := []) (fun i u h => by cases h) (l := []) ?_, fun i => ?_⟩
    · cbv
      simp only [implies_true, and_true, true_and, IX.v_lit, IX.v_nat, IX.v_sy, BX.v_lit, BX.v_sy, NX.v_lit, NX.v_sy, addN, in_true, eq_self, Nat.succ_eq_add_one, intD_eq, encInt_le, encText_le, encSpan_le, encPair_le, encBox_le, encNote_le, encSight_le, cell_i_le, Nat.add_zero, Int.toNat_natCast, Nat.lt_irrefl, if_false, and_self, ncast, imp_self, in_self, in_self2, in_and, Int.cast_ofNat_Int, in_and2, ltB_t, ltB_f, leB_t, leB_f, eqB_t, eqB_f, ltNB_t, ltNB_f, leNB_t, leNB_f, eqNB_t, eqNB_f, noT, noF, Bool.and_eq_true, Bool.or_eq_true, Bool.and_eq_false_iff, Bool.or_eq_false_iff]
    · obtain ⟨i, hi, hl⟩ := i
      cbv
      simp only [implies_true, and_true, true_and, IX.v_lit, IX.v_nat, IX.v_sy, BX.v_lit, BX.v_sy, NX.v_lit, NX.v_sy, addN, in_true, eq_self, Nat.succ_eq_add_one, intD_eq, encInt_le, encText_le, encSpan_le, encPair_le, encBox_le, encNote_le, encSight_le, cell_i_le, Nat.add_zero, Int.toNat_natCast, Nat.lt_irrefl, if_false, and_self, ncast, imp_self, in_self, in_self2, in_and, Int.cast_ofNat_Int, in_and2, ltB_t, ltB_f, leB_t, leB_f, eqB_t, eqB_f, ltNB_t, ltNB_f, leNB_t, leNB_f, eqNB_t, eqNB_f, noT, noF, Bool.and_eq_true, Bool.or_eq_true, Bool.and_eq_false_iff, Bool.or_eq_false_iff]
      refine ⟨fun hlt => ?_, fun hlt => ?_⟩
      · cbv
        simp only [implies_true, and_true, true_and, IX.v_lit, IX.v_nat, IX.v_sy, BX.v_lit, BX.v_sy, NX.v_lit, NX.v_sy, addN, in_true, eq_self, Nat.succ_eq_add_one, intD_eq, encInt_le, encText_le, encSpan_le, encPair_le, encBox_le, encNote_le, encSight_le, cell_i_le, Nat.add_zero, Int.toNat_natCast, Nat.lt_irrefl, if_false, and_self, ncast, imp_self, in_self, in_self2, in_and, Int.cast_ofNat_Int, in_and2, ltB_t, ltB_f, leB_t, leB_f, eqB_t, eqB_f, ltNB_t, ltNB_f, leNB_t, leNB_f, eqNB_t, eqNB_f, noT, noF, Bool.and_eq_true, Bool.or_eq_true, Bool.and_eq_false_iff, Bool.or_eq_false_iff]
        refine ⟨⟨hlt⟩, fun _ => ⟨hlt⟩, fun _ => ⟨hlt⟩, fun hbad => ?_, fun hbad => ?_⟩
        · cbv
          simp only [implies_true, and_true, true_and, IX.v_lit, IX.v_nat, IX.v_sy, BX.v_lit, BX.v_sy, NX.v_lit, NX.v_sy, addN, in_true, eq_self, Nat.succ_eq_add_one, intD_eq, encInt_le, encText_le, encSpan_le, encPair_le, encBox_le, encNote_le, encSight_le, cell_i_le, Nat.add_zero, Int.toNat_natCast, Nat.lt_irrefl, if_false, and_self, ncast, imp_self, in_self, in_self2, in_and, Int.cast_ofNat_Int, in_and2, ltB_t, ltB_f, leB_t, leB_f, eqB_t, eqB_f, ltNB_t, ltNB_f, leNB_t, leNB_f, eqNB_t, eqNB_f, noT, noF, Bool.and_eq_true, Bool.or_eq_true, Bool.and_eq_false_iff, Bool.or_eq_false_iff]
          unfold isPattern
          have : ((List.range s.size).all fun i => isLetter (byteAt s i) true) = false := List.all_eq_false.2 ⟨i, List.mem_range.2 hlt, by
            unfold isLetter
            revert hbad
            generalize byteAt s i = c
            simp <;> intros <;> omega⟩
          rw [this, Bool.and_false]
          exact ⟨rfl⟩
        · cbv
          simp only [implies_true, and_true, true_and, IX.v_lit, IX.v_nat, IX.v_sy, BX.v_lit, BX.v_sy, NX.v_lit, NX.v_sy, addN, in_true, eq_self, Nat.succ_eq_add_one, intD_eq, encInt_le, encText_le, encSpan_le, encPair_le, encBox_le, encNote_le, encSight_le, cell_i_le, Nat.add_zero, Int.toNat_natCast, Nat.lt_irrefl, if_false, and_self, ncast, imp_self, in_self, in_self2, in_and, Int.cast_ofNat_Int, in_and2, ltB_t, ltB_f, leB_t, leB_f, eqB_t, eqB_f, ltNB_t, ltNB_f, leNB_t, leNB_f, eqNB_t, eqNB_f, noT, noF, Bool.and_eq_true, Bool.or_eq_true, Bool.and_eq_false_iff, Bool.or_eq_false_iff]
          refine ⟨⟨nat_fits hlt hsz⟩, ⟨i + 1, by omega, fun j hj => ?_⟩, LeBy.le (pins := []) (fun i u h => by cases h) (l := []) ?_, by show s.size - (i + 1) < s.size - i; omega⟩
          · rcases Nat.lt_or_ge j i with h1 | h1
            · exact hl j h1
            · rw [show j = i by omega]
              unfold isLetter
              revert hbad
              generalize byteAt s i = c
              simp <;> intros <;> omega
          · cbv
            simp only [implies_true, and_true, true_and, IX.v_lit, IX.v_nat, IX.v_sy, BX.v_lit, BX.v_sy, NX.v_lit, NX.v_sy, addN, in_true, eq_self, Nat.succ_eq_add_one, intD_eq, encInt_le, encText_le, encSpan_le, encPair_le, encBox_le, encNote_le, encSight_le, cell_i_le, Nat.add_zero, Int.toNat_natCast, Nat.lt_irrefl, if_false, and_self, ncast, imp_self, in_self, in_self2, in_and, Int.cast_ofNat_Int, in_and2, ltB_t, ltB_f, leB_t, leB_f, eqB_t, eqB_f, ltNB_t, ltNB_f, leNB_t, leNB_f, eqNB_t, eqNB_f, noT, noF, Bool.and_eq_true, Bool.or_eq_true, Bool.and_eq_false_iff, Bool.or_eq_false_iff]
      · cbv
        simp only [implies_true, and_true, true_and, IX.v_lit, IX.v_nat, IX.v_sy, BX.v_lit, BX.v_sy, NX.v_lit, NX.v_sy, addN, in_true, eq_self, Nat.succ_eq_add_one, intD_eq, encInt_le, encText_le, encSpan_le, encPair_le, encBox_le, encNote_le, encSight_le, cell_i_le, Nat.add_zero, Int.toNat_natCast, Nat.lt_irrefl, if_false, and_self, ncast, imp_self, in_self, in_self2, in_and, Int.cast_ofNat_Int, in_and2, ltB_t, ltB_f, leB_t, leB_f, eqB_t, eqB_f, ltNB_t, ltNB_f, leNB_t, leNB_f, eqNB_t, eqNB_f, noT, noF, Bool.and_eq_true, Bool.or_eq_true, Bool.and_eq_false_iff, Bool.or_eq_false_iff]
        unfold isPattern
        have : ((List.range s.size).all fun i => isLetter (byteAt s i) true) = true := List.all_eq_true.2 fun j hj => hl j (by have := List.mem_range.1 hj; omega)
        rw [this, Bool.and_true]
        exact ⟨rfl⟩
  · exact hs.elim
theorem okRefAgree : SpecOk F0 Tryz.prog 41 spRefAgree := by
  refine spec_pure (e := en [(101, spRefPattern)]) (en_ok ⟨okRefPattern, trivial⟩) rfl (fn := Tryz.f41) (c := fbody Tryz.f41) (by kernel_rfl) rfl rfl (by kernel_rfl) (fun _ _ _ _ => rfl) fun args M base hs => ?_
  unfold spRefAgree at hs ⊢
  split at hs
  · refine ⟨Nat.le_of_ble_eq_true rfl, rfl, rfl, rfl, rfl, fun B => ?_⟩
    rename_i p q
    obtain ⟨p, rfl⟩ : ∃ t, p = fun _ => t := ⟨p (), rfl⟩
    obtain ⟨q, rfl⟩ : ∃ t, q = fun _ => t := ⟨q (), rfl⟩
    obtain ⟨hps, hqs⟩ := hs.ok
    simp only at hps hqs
    cbv
    simp only [implies_true, and_true, true_and, IX.v_lit, IX.v_nat, IX.v_sy, BX.v_lit, BX.v_sy, NX.v_lit, NX.v_sy, addN, in_true, eq_self, Nat.succ_eq_add_one, intD_eq, encInt_le, encText_le, encSpan_le, encPair_le, encBox_le, encNote_le, encSight_le, cell_i_le, Nat.add_zero, Int.toNat_natCast, Nat.lt_irrefl, if_false, and_self, ncast, imp_self, in_self, in_self2, in_and, Int.cast_ofNat_Int, in_and2, ltB_t, ltB_f, leB_t, leB_f, eqB_t, eqB_f, ltNB_t, ltNB_f, leNB_t, leNB_f, eqNB_t, eqNB_f, noT, noF, Bool.and_eq_true, Bool.or_eq_true, Bool.and_eq_false_iff, Bool.or_eq_false_iff]
    refine ⟨⟨hps⟩, ⟨hqs⟩, fun h => ?_, fun h => ?_⟩
    · cbv
      simp only [implies_true, and_true, true_and, IX.v_lit, IX.v_nat, IX.v_sy, BX.v_lit, BX.v_sy, NX.v_lit, NX.v_sy, addN, in_true, eq_self, Nat.succ_eq_add_one, intD_eq, encInt_le, encText_le, encSpan_le, encPair_le, encBox_le, encNote_le, encSight_le, cell_i_le, Nat.add_zero, Int.toNat_natCast, Nat.lt_irrefl, if_false, and_self, ncast, imp_self, in_self, in_self2, in_and, Int.cast_ofNat_Int, in_and2, ltB_t, ltB_f, leB_t, leB_f, eqB_t, eqB_f, ltNB_t, ltNB_f, leNB_t, leNB_f, eqNB_t, eqNB_f, noT, noF, Bool.and_eq_true, Bool.or_eq_true, Bool.and_eq_false_iff, Bool.or_eq_false_iff]
      refine ⟨?_⟩
      unfold blendOk
      rcases h with (h | h) | h <;> simp [*] at *
    · obtain ⟨⟨hp, hq⟩, hsz⟩ := h
      have hsz : p.size = q.size := by (first | omega | (simp only [ncast] at *; omega))
      cbv
      simp only [implies_true, and_true, true_and, IX.v_lit, IX.v_nat, IX.v_sy, BX.v_lit, BX.v_sy, NX.v_lit, NX.v_sy, addN, in_true, eq_self, Nat.succ_eq_add_one, intD_eq, encInt_le, encText_le, encSpan_le, encPair_le, encBox_le, encNote_le, encSight_le, cell_i_le, Nat.add_zero, Int.toNat_natCast, Nat.lt_irrefl, if_false, and_self, ncast, imp_self, in_self, in_self2, in_and, Int.cast_ofNat_Int, in_and2, ltB_t, ltB_f, leB_t, leB_f, eqB_t, eqB_f, ltNB_t, ltNB_f, leNB_t, leNB_f, eqNB_t, eqNB_f, noT, noF, Bool.and_eq_true, Bool.or_eq_true, Bool.and_eq_false_iff, Bool.or_eq_false_iff]
      refine ⟨{i : Nat // i ≤ p.size ∧ ∀ j, j < i → agreeAt p q j = true}, fun i => ⟨[(0, .lit true, .one (.s fun _ => p)), (1, .lit true, .one (.s fun _ => q)), (7, .lit true, cint .i64 (.nat (fun _ => i.1) 0))], [], 0⟩, fun i => p.size - i.1, ⟨0, by omega, fun j hj => by omega⟩, LeBy.le (pins := []) (fun i u h => by cases h) (l := []) ?_, fun i => ?_⟩
      · cbv
        simp only [implies_true, and_true, true_and, IX.v_lit, IX.v_nat, IX.v_sy, BX.v_lit, BX.v_sy, NX.v_lit, NX.v_sy, addN, in_true, eq_self, Nat.succ_eq_add_one, intD_eq, encInt_le, encText_le, encSpan_le, encPair_le, encBox_le, encNote_le, encSight_le, cell_i_le, Nat.add_zero, Int.toNat_natCast, Nat.lt_irrefl, if_false, and_self, ncast, imp_self, in_self, in_self2, in_and, Int.cast_ofNat_Int, in_and2, ltB_t, ltB_f, leB_t, leB_f, eqB_t, eqB_f, ltNB_t, ltNB_f, leNB_t, leNB_f, eqNB_t, eqNB_f, noT, noF, Bool.and_eq_true, Bool.or_eq_true, Bool.and_eq_false_iff, Bool.or_eq_false_iff]
      · obtain ⟨i, hi, hl⟩ := i
        cbv
        simp only [implies_true, and_true, true_and, IX.v_lit, IX.v_nat, IX.v_sy, BX.v_lit, BX.v_sy, NX.v_lit, NX.v_sy, addN, in_true, eq_self, Nat.succ_eq_add_one, intD_eq, encInt_le, encText_le, encSpan_le, encPair_le, encBox_le, encNote_le, encSight_le, cell_i_le, Nat.add_zero, Int.toNat_natCast, Nat.lt_irrefl, if_false, and_self, ncast, imp_self, in_self, in_self2, in_and, Int.cast_ofNat_Int, in_and2, ltB_t, ltB_f, leB_t, leB_f, eqB_t, eqB_f, ltNB_t, ltNB_f, leNB_t, leNB_f, eqNB_t, eqNB_f, noT, noF, Bool.and_eq_true, Bool.or_eq_true, Bool.and_eq_false_iff, Bool.or_eq_false_iff]
        refine ⟨fun hlt => ?_, fun hlt => ?_⟩
        · cbv
          simp only [implies_true, and_true, true_and, IX.v_lit, IX.v_nat, IX.v_sy, BX.v_lit, BX.v_sy, NX.v_lit, NX.v_sy, addN, in_true, eq_self, Nat.succ_eq_add_one, intD_eq, encInt_le, encText_le, encSpan_le, encPair_le, encBox_le, encNote_le, encSight_le, cell_i_le, Nat.add_zero, Int.toNat_natCast, Nat.lt_irrefl, if_false, and_self, ncast, imp_self, in_self, in_self2, in_and, Int.cast_ofNat_Int, in_and2, ltB_t, ltB_f, leB_t, leB_f, eqB_t, eqB_f, ltNB_t, ltNB_f, leNB_t, leNB_f, eqNB_t, eqNB_f, noT, noF, Bool.and_eq_true, Bool.or_eq_true, Bool.and_eq_false_iff, Bool.or_eq_false_iff]
          refine ⟨⟨hlt⟩, ⟨by omega⟩, fun _ => ⟨hlt⟩, fun _ => ⟨by omega⟩, fun hbad => ?_, fun hbad => ?_⟩
          · cbv
            simp only [implies_true, and_true, true_and, IX.v_lit, IX.v_nat, IX.v_sy, BX.v_lit, BX.v_sy, NX.v_lit, NX.v_sy, addN, in_true, eq_self, Nat.succ_eq_add_one, intD_eq, encInt_le, encText_le, encSpan_le, encPair_le, encBox_le, encNote_le, encSight_le, cell_i_le, Nat.add_zero, Int.toNat_natCast, Nat.lt_irrefl, if_false, and_self, ncast, imp_self, in_self, in_self2, in_and, Int.cast_ofNat_Int, in_and2, ltB_t, ltB_f, leB_t, leB_f, eqB_t, eqB_f, ltNB_t, ltNB_f, leNB_t, leNB_f, eqNB_t, eqNB_f, noT, noF, Bool.and_eq_true, Bool.or_eq_true, Bool.and_eq_false_iff, Bool.or_eq_false_iff]
            have : (List.range p.size).all (agreeAt p q) = false := List.all_eq_false.2 ⟨i, List.mem_range.2 hlt, by
              unfold agreeAt
              revert hbad
              generalize byteAt p i = c
              generalize byteAt q i = d
              simp <;> intros <;> omega⟩
            unfold blendOk
            rw [this, Bool.and_false]
            exact ⟨rfl⟩
          · cbv
            simp only [implies_true, and_true, true_and, IX.v_lit, IX.v_nat, IX.v_sy, BX.v_lit, BX.v_sy, NX.v_lit, NX.v_sy, addN, in_true, eq_self, Nat.succ_eq_add_one, intD_eq, encInt_le, encText_le, encSpan_le, encPair_le, encBox_le, encNote_le, encSight_le, cell_i_le, Nat.add_zero, Int.toNat_natCast, Nat.lt_irrefl, if_false, and_self, ncast, imp_self, in_self, in_self2, in_and, Int.cast_ofNat_Int, in_and2, ltB_t, ltB_f, leB_t, leB_f, eqB_t, eqB_f, ltNB_t, ltNB_f, leNB_t, leNB_f, eqNB_t, eqNB_f, noT, noF, Bool.and_eq_true, Bool.or_eq_true, Bool.and_eq_false_iff, Bool.or_eq_false_iff]
            refine ⟨⟨nat_fits hlt hps⟩, ⟨i + 1, by omega, fun j hj => ?_⟩, LeBy.le (pins := []) (fun i u h => by cases h) (l := []) ?_, by show p.size - (i + 1) < p.size - i; omega⟩
            · rcases Nat.lt_or_ge j i with h1 | h1
              · exact hl j h1
              · rw [show j = i by omega]
                unfold agreeAt
                revert hbad
                generalize byteAt p i = c
                generalize byteAt q i = d
                simp <;> intros <;> omega
            · cbv
              simp only [implies_true, and_true, true_and, IX.v_lit, IX.v_nat, IX.v_sy, BX.v_lit, BX.v_sy, NX.v_lit, NX.v_sy, addN, in_true, eq_self, Nat.succ_eq_add_one, intD_eq, encInt_le, encText_le, encSpan_le, encPair_le, encBox_le, encNote_le, encSight_le, cell_i_le, Nat.add_zero, Int.toNat_natCast, Nat.lt_irrefl, if_false, and_self, ncast, imp_self, in_self, in_self2, in_and, Int.cast_ofNat_Int, in_and2, ltB_t, ltB_f, leB_t, leB_f, eqB_t, eqB_f, ltNB_t, ltNB_f, leNB_t, leNB_f, eqNB_t, eqNB_f, noT, noF, Bool.and_eq_true, Bool.or_eq_true, Bool.and_eq_false_iff, Bool.or_eq_false_iff]
        · cbv
          simp only [implies_true, and_true, true_and, IX.v_lit, IX.v_nat, IX.v_sy, BX.v_lit, BX.v_sy, NX.v_lit, NX.v_sy, addN, in_true, eq_self, Nat.succ_eq_add_one, intD_eq, encInt_le, encText_le, encSpan_le, encPair_le, encBox_le, encNote_le, encSight_le, cell_i_le, Nat.add_zero, Int.toNat_natCast, Nat.lt_irrefl, if_false, and_self, ncast, imp_self, in_self, in_self2, in_and, Int.cast_ofNat_Int, in_and2, ltB_t, ltB_f, leB_t, leB_f, eqB_t, eqB_f, ltNB_t, ltNB_f, leNB_t, leNB_f, eqNB_t, eqNB_f, noT, noF, Bool.and_eq_true, Bool.or_eq_true, Bool.and_eq_false_iff, Bool.or_eq_false_iff]
          refine ⟨?_⟩
          unfold blendOk
          simp only [hp, hq, hsz, decide_true, Bool.and_true, Bool.true_and]
          refine List.all_eq_true.2 fun j hj => hl j ?_
          have := List.mem_range.1 hj
          omega
  · exact hs.elim
theorem okRefReads : SpecOk F0 Tryz.prog 39 spRefReads := by
  refine spec_pure (e := en [(41, spRefAgree)]) (en_ok ⟨okRefAgree, trivial⟩) rfl (fn := Tryz.f39) (c := fbody Tryz.f39) (by kernel_rfl) rfl rfl (by kernel_rfl) (fun _ _ _ _ => rfl) fun args M base hs => ?_
  unfold spRefReads at hs ⊢
  split at hs
  · refine ⟨Nat.le_of_ble_eq_true rfl, rfl, rfl, rfl, rfl, fun B => ?_⟩
    rename_i p q
    obtain ⟨p, rfl⟩ : ∃ t, p = fun _ => t := ⟨p (), rfl⟩
    obtain ⟨q, rfl⟩ : ∃ t, q = fun _ => t := ⟨q (), rfl⟩
    obtain ⟨hps, hqs⟩ := hs.ok
    simp only at hps hqs
    cbv
    simp only [implies_true, and_true, true_and, IX.v_lit, IX.v_nat, IX.v_sy, BX.v_lit, BX.v_sy, NX.v_lit, NX.v_sy, addN, in_true, eq_self, Nat.succ_eq_add_one, intD_eq, encInt_le, encText_le, encSpan_le, encPair_le, encBox_le, encNote_le, encSight_le, cell_i_le, Nat.add_zero, Int.toNat_natCast, Nat.lt_irrefl, if_false, and_self, ncast, imp_self, in_self, in_self2, in_and, Int.cast_ofNat_Int, in_and2, ltB_t, ltB_f, leB_t, leB_f, eqB_t, eqB_f, ltNB_t, ltNB_f, leNB_t, leNB_f, eqNB_t, eqNB_f, noT, noF, Bool.and_eq_true, Bool.or_eq_true, Bool.and_eq_false_iff, Bool.or_eq_false_iff]
    refine ⟨{i : Nat // i ≤ p.size ∧ ∀ j, j < i → byteAt p j ≠ 46}, fun i => ⟨[(0, .lit true, .one (.s fun _ => p)), (1, .lit true, .one (.s fun _ => q)), (5, .lit true, cint .i64 (.nat (fun _ => i.1) 0))], [], 0⟩, fun i => p.size - i.1, ⟨0, by omega, fun j hj => by omega⟩, LeBy.le (pins := []) (fun i u h => by cases h) (l := []) ?_, fun i => ?_⟩
    · cbv
      simp only [implies_true, and_true, true_and, IX.v_lit, IX.v_nat, IX.v_sy, BX.v_lit, BX.v_sy, NX.v_lit, NX.v_sy, addN, in_true, eq_self, Nat.succ_eq_add_one, intD_eq, encInt_le, encText_le, encSpan_le, encPair_le, encBox_le, encNote_le, encSight_le, cell_i_le, Nat.add_zero, Int.toNat_natCast, Nat.lt_irrefl, if_false, and_self, ncast, imp_self, in_self, in_self2, in_and, Int.cast_ofNat_Int, in_and2, ltB_t, ltB_f, leB_t, leB_f, eqB_t, eqB_f, ltNB_t, ltNB_f, leNB_t, leNB_f, eqNB_t, eqNB_f, noT, noF, Bool.and_eq_true, Bool.or_eq_true, Bool.and_eq_false_iff, Bool.or_eq_false_iff]
    · obtain ⟨i, hi, hl⟩ := i
      cbv
      simp only [implies_true, and_true, true_and, IX.v_lit, IX.v_nat, IX.v_sy, BX.v_lit, BX.v_sy, NX.v_lit, NX.v_sy, addN, in_true, eq_self, Nat.succ_eq_add_one, intD_eq, encInt_le, encText_le, encSpan_le, encPair_le, encBox_le, encNote_le, encSight_le, cell_i_le, Nat.add_zero, Int.toNat_natCast, Nat.lt_irrefl, if_false, and_self, ncast, imp_self, in_self, in_self2, in_and, Int.cast_ofNat_Int, in_and2, ltB_t, ltB_f, leB_t, leB_f, eqB_t, eqB_f, ltNB_t, ltNB_f, leNB_t, leNB_f, eqNB_t, eqNB_f, noT, noF, Bool.and_eq_true, Bool.or_eq_true, Bool.and_eq_false_iff, Bool.or_eq_false_iff]
      refine ⟨fun hlt => ?_, fun hlt => ?_⟩
      · cbv
        simp only [implies_true, and_true, true_and, IX.v_lit, IX.v_nat, IX.v_sy, BX.v_lit, BX.v_sy, NX.v_lit, NX.v_sy, addN, in_true, eq_self, Nat.succ_eq_add_one, intD_eq, encInt_le, encText_le, encSpan_le, encPair_le, encBox_le, encNote_le, encSight_le, cell_i_le, Nat.add_zero, Int.toNat_natCast, Nat.lt_irrefl, if_false, and_self, ncast, imp_self, in_self, in_self2, in_and, Int.cast_ofNat_Int, in_and2, ltB_t, ltB_f, leB_t, leB_f, eqB_t, eqB_f, ltNB_t, ltNB_f, leNB_t, leNB_f, eqNB_t, eqNB_f, noT, noF, Bool.and_eq_true, Bool.or_eq_true, Bool.and_eq_false_iff, Bool.or_eq_false_iff]
        refine ⟨⟨hlt⟩, fun h46 => ?_, fun h46 => ?_⟩
        · cbv
          simp only [implies_true, and_true, true_and, IX.v_lit, IX.v_nat, IX.v_sy, BX.v_lit, BX.v_sy, NX.v_lit, NX.v_sy, addN, in_true, eq_self, Nat.succ_eq_add_one, intD_eq, encInt_le, encText_le, encSpan_le, encPair_le, encBox_le, encNote_le, encSight_le, cell_i_le, Nat.add_zero, Int.toNat_natCast, Nat.lt_irrefl, if_false, and_self, ncast, imp_self, in_self, in_self2, in_and, Int.cast_ofNat_Int, in_and2, ltB_t, ltB_f, leB_t, leB_f, eqB_t, eqB_f, ltNB_t, ltNB_f, leNB_t, leNB_f, eqNB_t, eqNB_f, noT, noF, Bool.and_eq_true, Bool.or_eq_true, Bool.and_eq_false_iff, Bool.or_eq_false_iff]
          refine ⟨?_⟩
          unfold readsB isPattern
          have : ((List.range p.size).all fun i => isLetter (byteAt p i) false) = false := List.all_eq_false.2 ⟨i, List.mem_range.2 hlt, by unfold isLetter; rw [h46]; simp⟩
          rw [this, Bool.and_false, Bool.false_and]
        · cbv
          simp only [implies_true, and_true, true_and, IX.v_lit, IX.v_nat, IX.v_sy, BX.v_lit, BX.v_sy, NX.v_lit, NX.v_sy, addN, in_true, eq_self, Nat.succ_eq_add_one, intD_eq, encInt_le, encText_le, encSpan_le, encPair_le, encBox_le, encNote_le, encSight_le, cell_i_le, Nat.add_zero, Int.toNat_natCast, Nat.lt_irrefl, if_false, and_self, ncast, imp_self, in_self, in_self2, in_and, Int.cast_ofNat_Int, in_and2, ltB_t, ltB_f, leB_t, leB_f, eqB_t, eqB_f, ltNB_t, ltNB_f, leNB_t, leNB_f, eqNB_t, eqNB_f, noT, noF, Bool.and_eq_true, Bool.or_eq_true, Bool.and_eq_false_iff, Bool.or_eq_false_iff]
          refine ⟨⟨nat_fits hlt hps⟩, ⟨i + 1, by omega, fun j hj => ?_⟩, LeBy.le (pins := []) (fun i u h => by cases h) (l := []) ?_, by show p.size - (i + 1) < p.size - i; omega⟩
          · rcases Nat.lt_or_ge j i with h1 | h1
            · exact hl j h1
            · rw [show j = i by omega]
              exact h46
          · cbv
            simp only [implies_true, and_true, true_and, IX.v_lit, IX.v_nat, IX.v_sy, BX.v_lit, BX.v_sy, NX.v_lit, NX.v_sy, addN, in_true, eq_self, Nat.succ_eq_add_one, intD_eq, encInt_le, encText_le, encSpan_le, encPair_le, encBox_le, encNote_le, encSight_le, cell_i_le, Nat.add_zero, Int.toNat_natCast, Nat.lt_irrefl, if_false, and_self, ncast, imp_self, in_self, in_self2, in_and, Int.cast_ofNat_Int, in_and2, ltB_t, ltB_f, leB_t, leB_f, eqB_t, eqB_f, ltNB_t, ltNB_f, leNB_t, leNB_f, eqNB_t, eqNB_f, noT, noF, Bool.and_eq_true, Bool.or_eq_true, Bool.and_eq_false_iff, Bool.or_eq_false_iff]
      · cbv
        simp only [implies_true, and_true, true_and, IX.v_lit, IX.v_nat, IX.v_sy, BX.v_lit, BX.v_sy, NX.v_lit, NX.v_sy, addN, in_true, eq_self, Nat.succ_eq_add_one, intD_eq, encInt_le, encText_le, encSpan_le, encPair_le, encBox_le, encNote_le, encSight_le, cell_i_le, Nat.add_zero, Int.toNat_natCast, Nat.lt_irrefl, if_false, and_self, ncast, imp_self, in_self, in_self2, in_and, Int.cast_ofNat_Int, in_and2, ltB_t, ltB_f, leB_t, leB_f, eqB_t, eqB_f, ltNB_t, ltNB_f, leNB_t, leNB_f, eqNB_t, eqNB_f, noT, noF, Bool.and_eq_true, Bool.or_eq_true, Bool.and_eq_false_iff, Bool.or_eq_false_iff]
        refine ⟨⟨hps, hqs⟩, ⟨?_⟩⟩
        unfold readsB
        cases hb : blendOk p q with
        | false => rw [Bool.and_false]
        | true =>
          rw [Bool.and_true]
          have hp : isPattern p true = true := by
            unfold blendOk at hb
            simp only [Bool.and_eq_true] at hb
            exact hb.1.1.1
          unfold isPattern at hp ⊢
          simp only [Bool.and_eq_true] at hp
          rw [Bool.and_eq_true, Bool.and_eq_true]
          refine ⟨hp.1, List.all_eq_true.2 fun j hj => ?_⟩
          have h1 := List.all_eq_true.1 hp.2 j hj
          have h2 := hl j (by have := List.mem_range.1 hj; omega)
          unfold isLetter at h1 ⊢
          revert h1 h2
          generalize byteAt p j = c
          simp <;> intros <;> omega
  · exact hs.elim
theorem okRefBlend : SpecOk F0 Tryz.prog 37 spRefBlend := by
  refine spec_pure (e := en [(41, spRefAgree)]) (en_ok ⟨okRefAgree, trivial⟩) rfl (fn := Tryz.f37) (c := fbody Tryz.f37) (by kernel_rfl) rfl rfl (by kernel_rfl) (fun _ _ _ _ => rfl) fun args M base hs => ?_
  unfold spRefBlend at hs ⊢
  split at hs
  · refine ⟨Nat.le_of_ble_eq_true rfl, rfl, rfl, rfl, rfl, fun B => ?_⟩
    rename_i p q
    obtain ⟨p, rfl⟩ : ∃ t, p = fun _ => t := ⟨p (), rfl⟩
    obtain ⟨q, rfl⟩ : ∃ t, q = fun _ => t := ⟨q (), rfl⟩
    obtain ⟨hps, hqs⟩ := hs.ok
    simp only at hps hqs
    cbv
    simp only [implies_true, and_true, true_and, IX.v_lit, IX.v_nat, IX.v_sy, BX.v_lit, BX.v_sy, NX.v_lit, NX.v_sy, addN, in_true, eq_self, Nat.succ_eq_add_one, intD_eq, encInt_le, encText_le, encSpan_le, encPair_le, encBox_le, encNote_le, encSight_le, cell_i_le, Nat.add_zero, Int.toNat_natCast, Nat.lt_irrefl, if_false, and_self, ncast, imp_self, in_self, in_self2, in_and, Int.cast_ofNat_Int, in_and2, ltB_t, ltB_f, leB_t, leB_f, eqB_t, eqB_f, ltNB_t, ltNB_f, leNB_t, leNB_f, eqNB_t, eqNB_f, noT, noF, Bool.and_eq_true, Bool.or_eq_true, Bool.and_eq_false_iff, Bool.or_eq_false_iff]
    refine ⟨⟨hps, hqs⟩, fun h => ?_, fun h => ?_⟩
    · have hb : blendOk p q = false := h
      cbv
      simp only [implies_true, and_true, true_and, IX.v_lit, IX.v_nat, IX.v_sy, BX.v_lit, BX.v_sy, NX.v_lit, NX.v_sy, addN, in_true, eq_self, Nat.succ_eq_add_one, intD_eq, encInt_le, encText_le, encSpan_le, encPair_le, encBox_le, encNote_le, encSight_le, cell_i_le, Nat.add_zero, Int.toNat_natCast, Nat.lt_irrefl, if_false, and_self, ncast, imp_self, in_self, in_self2, in_and, Int.cast_ofNat_Int, in_and2, ltB_t, ltB_f, leB_t, leB_f, eqB_t, eqB_f, ltNB_t, ltNB_f, leNB_t, leNB_f, eqNB_t, eqNB_f, noT, noF, Bool.and_eq_true, Bool.or_eq_true, Bool.and_eq_false_iff, Bool.or_eq_false_iff]
      refine ⟨⟨?_⟩, ⟨hb⟩⟩
      unfold blendS
      rw [hb]
      rfl
    · have hb : blendOk p q = true := h
      have hsz : p.size = q.size := by
        have := hb
        unfold blendOk at this
        simp only [Bool.and_eq_true, decide_eq_true_eq] at this
        exact this.1.2
      cbv
      simp only [implies_true, and_true, true_and, IX.v_lit, IX.v_nat, IX.v_sy, BX.v_lit, BX.v_sy, NX.v_lit, NX.v_sy, addN, in_true, eq_self, Nat.succ_eq_add_one, intD_eq, encInt_le, encText_le, encSpan_le, encPair_le, encBox_le, encNote_le, encSight_le, cell_i_le, Nat.add_zero, Int.toNat_natCast, Nat.lt_irrefl, if_false, and_self, ncast, imp_self, in_self, in_self2, in_and, Int.cast_ofNat_Int, in_and2, ltB_t, ltB_f, leB_t, leB_f, eqB_t, eqB_f, ltNB_t, ltNB_f, leNB_t, leNB_f, eqNB_t, eqNB_f, noT, noF, Bool.and_eq_true, Bool.or_eq_true, Bool.and_eq_false_iff, Bool.or_eq_false_iff]
      refine ⟨{i : Nat // i ≤ p.size}, fun i => ⟨[(0, .lit true, .one (.s fun _ => p)), (1, .lit true, .one (.s fun _ => q)), (7, .lit true, .one (.ref 0)), (8, .lit true, cint .i64 (.nat (fun _ => i.1) 0))], [(0, .row .own 5 1 (.sy (fun _ => i.1) 0) fun e => [.i .u8 (.sy fun _ => mixAt p q e)])], 1⟩, fun i => p.size - i.1, ⟨0, by omega⟩, LeBy.le (pins := []) (fun i u h => by cases h) (l := [(0, .nil)]) ?_, fun i => ?_⟩
      · cbv
        simp only [implies_true, and_true, true_and, IX.v_lit, IX.v_nat, IX.v_sy, BX.v_lit, BX.v_sy, NX.v_lit, NX.v_sy, addN, in_true, eq_self, Nat.succ_eq_add_one, intD_eq, encInt_le, encText_le, encSpan_le, encPair_le, encBox_le, encNote_le, encSight_le, cell_i_le, Nat.add_zero, Int.toNat_natCast, Nat.lt_irrefl, if_false, and_self, ncast, imp_self, in_self, in_self2, in_and, Int.cast_ofNat_Int, in_and2, ltB_t, ltB_f, leB_t, leB_f, eqB_t, eqB_f, ltNB_t, ltNB_f, leNB_t, leNB_f, eqNB_t, eqNB_f, noT, noF, Bool.and_eq_true, Bool.or_eq_true, Bool.and_eq_false_iff, Bool.or_eq_false_iff]
      · obtain ⟨i, hi⟩ := i
        cbv
        simp only [implies_true, and_true, true_and, IX.v_lit, IX.v_nat, IX.v_sy, BX.v_lit, BX.v_sy, NX.v_lit, NX.v_sy, addN, in_true, eq_self, Nat.succ_eq_add_one, intD_eq, encInt_le, encText_le, encSpan_le, encPair_le, encBox_le, encNote_le, encSight_le, cell_i_le, Nat.add_zero, Int.toNat_natCast, Nat.lt_irrefl, if_false, and_self, ncast, imp_self, in_self, in_self2, in_and, Int.cast_ofNat_Int, in_and2, ltB_t, ltB_f, leB_t, leB_f, eqB_t, eqB_f, ltNB_t, ltNB_f, leNB_t, leNB_f, eqNB_t, eqNB_f, noT, noF, Bool.and_eq_true, Bool.or_eq_true, Bool.and_eq_false_iff, Bool.or_eq_false_iff]
        refine ⟨fun hlt => ?_, fun hlt => ?_⟩
        · cbv
          simp only [implies_true, and_true, true_and, IX.v_lit, IX.v_nat, IX.v_sy, BX.v_lit, BX.v_sy, NX.v_lit, NX.v_sy, addN, in_true, eq_self, Nat.succ_eq_add_one, intD_eq, encInt_le, encText_le, encSpan_le, encPair_le, encBox_le, encNote_le, encSight_le, cell_i_le, Nat.add_zero, Int.toNat_natCast, Nat.lt_irrefl, if_false, and_self, ncast, imp_self, in_self, in_self2, in_and, Int.cast_ofNat_Int, in_and2, ltB_t, ltB_f, leB_t, leB_f, eqB_t, eqB_f, ltNB_t, ltNB_f, leNB_t, leNB_f, eqNB_t, eqNB_f, noT, noF, Bool.and_eq_true, Bool.or_eq_true, Bool.and_eq_false_iff, Bool.or_eq_false_iff]
          refine ⟨⟨hlt⟩, fun h46 => ?_, fun h46 => ?_⟩
          · cbv
            simp only [implies_true, and_true, true_and, IX.v_lit, IX.v_nat, IX.v_sy, BX.v_lit, BX.v_sy, NX.v_lit, NX.v_sy, addN, in_true, eq_self, Nat.succ_eq_add_one, intD_eq, encInt_le, encText_le, encSpan_le, encPair_le, encBox_le, encNote_le, encSight_le, cell_i_le, Nat.add_zero, Int.toNat_natCast, Nat.lt_irrefl, if_false, and_self, ncast, imp_self, in_self, in_self2, in_and, Int.cast_ofNat_Int, in_and2, ltB_t, ltB_f, leB_t, leB_f, eqB_t, eqB_f, ltNB_t, ltNB_f, leNB_t, leNB_f, eqNB_t, eqNB_f, noT, noF, Bool.and_eq_true, Bool.or_eq_true, Bool.and_eq_false_iff, Bool.or_eq_false_iff]
            refine ⟨⟨by omega⟩, ⟨by omega, by omega⟩, ⟨nat_fits hlt hps⟩, ⟨i + 1, by omega⟩, LeBy.le (pins := []) (fun i u h => by cases h) (l := [(0, .old 2)]) ?_, by show p.size - (i + 1) < p.size - i; omega⟩
            cbv
            simp only [implies_true, and_true, true_and, IX.v_lit, IX.v_nat, IX.v_sy, BX.v_lit, BX.v_sy, NX.v_lit, NX.v_sy, addN, in_true, eq_self, Nat.succ_eq_add_one, intD_eq, encInt_le, encText_le, encSpan_le, encPair_le, encBox_le, encNote_le, encSight_le, cell_i_le, Nat.add_zero, Int.toNat_natCast, Nat.lt_irrefl, if_false, and_self, ncast, imp_self, in_self, in_self2, in_and, Int.cast_ofNat_Int, in_and2, ltB_t, ltB_f, leB_t, leB_f, eqB_t, eqB_f, ltNB_t, ltNB_f, leNB_t, leNB_f, eqNB_t, eqNB_f, noT, noF, Bool.and_eq_true, Bool.or_eq_true, Bool.and_eq_false_iff, Bool.or_eq_false_iff]
            refine ⟨fun e he => ?_⟩
            by_cases h1 : e < i
            · simp only [h1, if_true]
              exact ⟨⟨trivial, ⟨rfl⟩⟩, trivial⟩
            · simp only [h1, if_false]
              rw [show e = i by omega, Nat.sub_self]
              refine ⟨⟨trivial, ⟨?_⟩⟩, trivial⟩
              show mixAt p q i = byteAt q i
              unfold mixAt
              rw [if_pos h46]
          · cbv
            simp only [implies_true, and_true, true_and, IX.v_lit, IX.v_nat, IX.v_sy, BX.v_lit, BX.v_sy, NX.v_lit, NX.v_sy, addN, in_true, eq_self, Nat.succ_eq_add_one, intD_eq, encInt_le, encText_le, encSpan_le, encPair_le, encBox_le, encNote_le, encSight_le, cell_i_le, Nat.add_zero, Int.toNat_natCast, Nat.lt_irrefl, if_false, and_self, ncast, imp_self, in_self, in_self2, in_and, Int.cast_ofNat_Int, in_and2, ltB_t, ltB_f, leB_t, leB_f, eqB_t, eqB_f, ltNB_t, ltNB_f, leNB_t, leNB_f, eqNB_t, eqNB_f, noT, noF, Bool.and_eq_true, Bool.or_eq_true, Bool.and_eq_false_iff, Bool.or_eq_false_iff]
            refine ⟨⟨hlt⟩, ⟨by omega, by omega⟩, ⟨nat_fits hlt hps⟩, ⟨i + 1, by omega⟩, LeBy.le (pins := []) (fun i u h => by cases h) (l := [(0, .old 2)]) ?_, by show p.size - (i + 1) < p.size - i; omega⟩
            cbv
            simp only [implies_true, and_true, true_and, IX.v_lit, IX.v_nat, IX.v_sy, BX.v_lit, BX.v_sy, NX.v_lit, NX.v_sy, addN, in_true, eq_self, Nat.succ_eq_add_one, intD_eq, encInt_le, encText_le, encSpan_le, encPair_le, encBox_le, encNote_le, encSight_le, cell_i_le, Nat.add_zero, Int.toNat_natCast, Nat.lt_irrefl, if_false, and_self, ncast, imp_self, in_self, in_self2, in_and, Int.cast_ofNat_Int, in_and2, ltB_t, ltB_f, leB_t, leB_f, eqB_t, eqB_f, ltNB_t, ltNB_f, leNB_t, leNB_f, eqNB_t, eqNB_f, noT, noF, Bool.and_eq_true, Bool.or_eq_true, Bool.and_eq_false_iff, Bool.or_eq_false_iff]
            refine ⟨fun e he => ?_⟩
            by_cases h1 : e < i
            · simp only [h1, if_true]
              exact ⟨⟨trivial, ⟨rfl⟩⟩, trivial⟩
            · simp only [h1, if_false]
              rw [show e = i by omega, Nat.sub_self]
              refine ⟨⟨trivial, ⟨?_⟩⟩, trivial⟩
              show mixAt p q i = byteAt p i
              unfold mixAt
              rw [if_neg h46]
        · cbv
          simp only [implies_true, and_true, true_and, IX.v_lit, IX.v_nat, IX.v_sy, BX.v_lit, BX.v_sy, NX.v_lit, NX.v_sy, addN, in_true, eq_self, Nat.succ_eq_add_one, intD_eq, encInt_le, encText_le, encSpan_le, encPair_le, encBox_le, encNote_le, encSight_le, cell_i_le, Nat.add_zero, Int.toNat_natCast, Nat.lt_irrefl, if_false, and_self, ncast, imp_self, in_self, in_self2, in_and, Int.cast_ofNat_Int, in_and2, ltB_t, ltB_f, leB_t, leB_f, eqB_t, eqB_f, ltNB_t, ltNB_f, leNB_t, leNB_f, eqNB_t, eqNB_f, noT, noF, Bool.and_eq_true, Bool.or_eq_true, Bool.and_eq_false_iff, Bool.or_eq_false_iff]
          refine ⟨⟨fun n hn => ⟨rfl, mixAt_byte p q n⟩⟩, ⟨?_⟩, ⟨hb⟩⟩
          · unfold blendS
            rw [hb]
            show strOf p.size _ = strOf i _
            rw [show i = p.size by omega]
  · exact hs.elim
end Go.Proofs.YthgllnnlngihoaaGreat.Sx
end
section
set_option linter.unusedVariables false
set_option linter.unusedSimpArgs false
set_option maxRecDepth 100000
namespace Go.Proofs.YthgllnnlngihoaaGreat.Sx
open Go.RowKit

def spRefSight : Spec := fun args _ _ => match args with
  | [.agg [.i .i64 id, .i .i64 y, .i .i64 a, .i .i64 b, .i .i64 c, .i .i64 d, .s s, .i .i64 lo, .i .i64 hi]] => gives (In fun _ => (s ()).size ≤ 140737488355328) (cint .i64 (.sy fun _ => sightE id.val y.val a.val b.val c.val d.val (s ()) lo.val hi.val))
  | _ => bad
theorem okRefSight : SpecOk F0 Tryz.prog 43 spRefSight := by
  refine spec_pure (e := en [(102, spProper), (86, spWithin), (101, spRefPattern)]) (en_ok ⟨okProper102, okWithin86, okRefPattern, trivial⟩) rfl (fn := Tryz.f43) (c := fbody Tryz.f43) (by kernel_rfl) rfl rfl (by kernel_rfl) (fun _ _ _ _ => rfl) fun args M base hs => ?_
  unfold spRefSight at hs ⊢
  split at hs
  · refine ⟨Nat.le_of_ble_eq_true rfl, rfl, rfl, rfl, rfl, fun B => ?_⟩
    have hsz := hs
    cbv
    simp only [implies_true, and_true, true_and, IX.v_lit, IX.v_nat, IX.v_sy, BX.v_lit, BX.v_sy, NX.v_lit, NX.v_sy, addN, in_true, eq_self, Nat.succ_eq_add_one, intD_eq, encInt_le, encText_le, encSpan_le, encPair_le, encBox_le, encNote_le, encSight_le, cell_i_le, Nat.add_zero, Int.toNat_natCast, Nat.lt_irrefl, if_false, and_self, ncast, imp_self, in_self, in_self2, in_and, Int.cast_ofNat_Int, in_and2, noT, noF]
    refine ⟨hsz, fun h => ?_, fun h => ?_⟩
    · cbv
      simp only [implies_true, and_true, true_and, IX.v_lit, IX.v_nat, IX.v_sy, BX.v_lit, BX.v_sy, NX.v_lit, NX.v_sy, addN, in_true, eq_self, Nat.succ_eq_add_one, intD_eq, encInt_le, encText_le, encSpan_le, encPair_le, encBox_le, encNote_le, encSight_le, cell_i_le, Nat.add_zero, Int.toNat_natCast, Nat.lt_irrefl, if_false, and_self, ncast, imp_self, in_self, in_self2, in_and, Int.cast_ofNat_Int, in_and2, ltB_t, ltB_f, leB_t, leB_f, eqB_t, eqB_f, ltNB_t, ltNB_f, leNB_t, leNB_f, eqNB_t, eqNB_f, noT, noF, Bool.and_eq_true, Bool.or_eq_true, Bool.and_eq_false_iff, Bool.or_eq_false_iff]
      have h : sightBad _ _ _ _ _ _ _ _ _ = true := h
      exact ⟨by unfold sightE; rw [h]; rfl⟩
    · cbv
      simp only [implies_true, and_true, true_and, IX.v_lit, IX.v_nat, IX.v_sy, BX.v_lit, BX.v_sy, NX.v_lit, NX.v_sy, addN, in_true, eq_self, Nat.succ_eq_add_one, intD_eq, encInt_le, encText_le, encSpan_le, encPair_le, encBox_le, encNote_le, encSight_le, cell_i_le, Nat.add_zero, Int.toNat_natCast, Nat.lt_irrefl, if_false, and_self, ncast, imp_self, in_self, in_self2, in_and, Int.cast_ofNat_Int, in_and2, ltB_t, ltB_f, leB_t, leB_f, eqB_t, eqB_f, ltNB_t, ltNB_f, leNB_t, leNB_f, eqNB_t, eqNB_f, noT, noF, Bool.and_eq_true, Bool.or_eq_true, Bool.and_eq_false_iff, Bool.or_eq_false_iff]
      have h : sightBad _ _ _ _ _ _ _ _ _ = false := h
      exact ⟨by unfold sightE; rw [h]; rfl⟩
  · exact hs.elim
end Go.Proofs.YthgllnnlngihoaaGreat.Sx
end
section
set_option linter.unusedVariables false
set_option linter.unusedSimpArgs false
set_option maxRecDepth 100000
namespace Go.Proofs.YthgllnnlngihoaaGreat.Sx
open Go.RowKit

def spBoth : Spec := fun args _ _ => match args with
  | [.agg [.i .i64 a, .i .i64 b], .agg [.i .i64 c, .i .i64 d]] => gives True (.agg [.i .i64 (.sy fun _ => max a.val c.val), .i .i64 (.sy fun _ => min b.val d.val)])
  | _ => bad
def spHull : Spec := fun args _ _ => match args with
  | [.agg [.i .i64 a, .i .i64 b], .agg [.i .i64 c, .i .i64 d]] => gives True (.agg [.i .i64 (.sy fun _ => min a.val c.val), .i .i64 (.sy fun _ => max b.val d.val)])
  | _ => bad
def spEmpty : Spec := fun args _ _ => match args with
  | [.agg [.i .i64 a, .i .i64 b]] => gives True (cbool (.sy fun _ => ltB b.val a.val))
  | _ => bad
def spNear : Spec := fun args _ _ => match args with
  | [.agg [.i .i64 a, .i .i64 b], .agg [.i .i64 c, .i .i64 d], .one (.i .i64 wd)] => gives (In fun _ => fitsK .i64 (c.val - wd.val) ∧ fitsK .i64 (d.val + wd.val)) (.agg [.i .i64 (.sy fun _ => max a.val (c.val - wd.val)), .i .i64 (.sy fun _ => min b.val (d.val + wd.val))])
  | _ => bad
theorem okBoth : SpecOk F0 Tryz.prog 175 spBoth := by
  refine spec_pure (e := en []) (en_ok trivial) rfl (fn := Tryz.f175) (c := fbody Tryz.f175) (by kernel_rfl) rfl rfl (by kernel_rfl) (fun _ _ _ _ => rfl) fun args M base hs => ?_
  unfold spBoth at hs ⊢
  split at hs
  · refine ⟨Nat.le_of_ble_eq_true rfl, rfl, rfl, rfl, rfl, fun B => ?_⟩
    cbv
    simp only [implies_true, and_true, true_and, IX.v_lit, IX.v_nat, IX.v_sy, BX.v_lit, BX.v_sy, NX.v_lit, NX.v_sy, addN, in_true, eq_self, Nat.succ_eq_add_one, intD_eq, encInt_le, encText_le, encSpan_le, encPair_le, encBox_le, encNote_le, encSight_le, cell_i_le, Nat.add_zero, Int.toNat_natCast, Nat.lt_irrefl, if_false, and_self, ncast, imp_self, in_self, in_self2, in_and, Int.cast_ofNat_Int, in_and2, ltB_t, ltB_f, leB_t, leB_f, eqB_t, eqB_f, ltNB_t, ltNB_f, leNB_t, leNB_f, eqNB_t, eqNB_f, noT, noF, Bool.and_eq_true, Bool.or_eq_true, Bool.and_eq_false_iff, Bool.or_eq_false_iff]
    all_goals exact ⟨rfl⟩
  · exact hs.elim
theorem okMeet : SpecOk F0 Tryz.prog 196 spBoth := by
  refine spec_pure (e := en []) (en_ok trivial) rfl (fn := Tryz.f196) (c := fbody Tryz.f196) (by kernel_rfl) rfl rfl (by kernel_rfl) (fun _ _ _ _ => rfl) fun args M base hs => ?_
  unfold spBoth at hs ⊢
  split at hs
  · refine ⟨Nat.le_of_ble_eq_true rfl, rfl, rfl, rfl, rfl, fun B => ?_⟩
    cbv
    simp only [implies_true, and_true, true_and, IX.v_lit, IX.v_nat, IX.v_sy, BX.v_lit, BX.v_sy, NX.v_lit, NX.v_sy, addN, in_true, eq_self, Nat.succ_eq_add_one, intD_eq, encInt_le, encText_le, encSpan_le, encPair_le, encBox_le, encNote_le, encSight_le, cell_i_le, Nat.add_zero, Int.toNat_natCast, Nat.lt_irrefl, if_false, and_self, ncast, imp_self, in_self, in_self2, in_and, Int.cast_ofNat_Int, in_and2, ltB_t, ltB_f, leB_t, leB_f, eqB_t, eqB_f, ltNB_t, ltNB_f, leNB_t, leNB_f, eqNB_t, eqNB_f, noT, noF, Bool.and_eq_true, Bool.or_eq_true, Bool.and_eq_false_iff, Bool.or_eq_false_iff]
    all_goals exact ⟨rfl⟩
  · exact hs.elim
theorem okHull : SpecOk F0 Tryz.prog 108 spHull := by
  refine spec_pure (e := en []) (en_ok trivial) rfl (fn := Tryz.f108) (c := fbody Tryz.f108) (by kernel_rfl) rfl rfl (by kernel_rfl) (fun _ _ _ _ => rfl) fun args M base hs => ?_
  unfold spHull at hs ⊢
  split at hs
  · refine ⟨Nat.le_of_ble_eq_true rfl, rfl, rfl, rfl, rfl, fun B => ?_⟩
    cbv
    simp only [implies_true, and_true, true_and, IX.v_lit, IX.v_nat, IX.v_sy, BX.v_lit, BX.v_sy, NX.v_lit, NX.v_sy, addN, in_true, eq_self, Nat.succ_eq_add_one, intD_eq, encInt_le, encText_le, encSpan_le, encPair_le, encBox_le, encNote_le, encSight_le, cell_i_le, Nat.add_zero, Int.toNat_natCast, Nat.lt_irrefl, if_false, and_self, ncast, imp_self, in_self, in_self2, in_and, Int.cast_ofNat_Int, in_and2, ltB_t, ltB_f, leB_t, leB_f, eqB_t, eqB_f, ltNB_t, ltNB_f, leNB_t, leNB_f, eqNB_t, eqNB_f, noT, noF, Bool.and_eq_true, Bool.or_eq_true, Bool.and_eq_false_iff, Bool.or_eq_false_iff]
    all_goals exact ⟨rfl⟩
  · exact hs.elim
theorem okEmpty : SpecOk F0 Tryz.prog 176 spEmpty := by
  refine spec_pure (e := en []) (en_ok trivial) rfl (fn := Tryz.f176) (c := fbody Tryz.f176) (by kernel_rfl) rfl rfl (by kernel_rfl) (fun _ _ _ _ => rfl) fun args M base hs => ?_
  unfold spEmpty at hs ⊢
  split at hs
  · refine ⟨Nat.le_of_ble_eq_true rfl, rfl, rfl, rfl, rfl, fun B => ?_⟩
    cbv
    simp only [implies_true, and_true, true_and, IX.v_lit, IX.v_nat, IX.v_sy, BX.v_lit, BX.v_sy, NX.v_lit, NX.v_sy, addN, in_true, eq_self, Nat.succ_eq_add_one, intD_eq, encInt_le, encText_le, encSpan_le, encPair_le, encBox_le, encNote_le, encSight_le, cell_i_le, Nat.add_zero, Int.toNat_natCast, Nat.lt_irrefl, if_false, and_self, ncast, imp_self, in_self, in_self2, in_and, Int.cast_ofNat_Int, in_and2, ltB_t, ltB_f, leB_t, leB_f, eqB_t, eqB_f, ltNB_t, ltNB_f, leNB_t, leNB_f, eqNB_t, eqNB_f, noT, noF, Bool.and_eq_true, Bool.or_eq_true, Bool.and_eq_false_iff, Bool.or_eq_false_iff]
    all_goals exact ⟨rfl⟩
  · exact hs.elim
theorem okNear : SpecOk F0 Tryz.prog 150 spNear := by
  refine spec_pure (e := en []) (en_ok trivial) rfl (fn := Tryz.f150) (c := fbody Tryz.f150) (by kernel_rfl) rfl rfl (by kernel_rfl) (fun _ _ _ _ => rfl) fun args M base hs => ?_
  unfold spNear at hs ⊢
  split at hs
  · refine ⟨Nat.le_of_ble_eq_true rfl, rfl, rfl, rfl, rfl, fun B => ?_⟩
    cbv
    simp only [implies_true, and_true, true_and, IX.v_lit, IX.v_nat, IX.v_sy, BX.v_lit, BX.v_sy, NX.v_lit, NX.v_sy, addN, in_true, eq_self, Nat.succ_eq_add_one, intD_eq, encInt_le, encText_le, encSpan_le, encPair_le, encBox_le, encNote_le, encSight_le, cell_i_le, Nat.add_zero, Int.toNat_natCast, Nat.lt_irrefl, if_false, and_self, ncast, imp_self, in_self, in_self2, in_and, Int.cast_ofNat_Int, in_and2, ltB_t, ltB_f, leB_t, leB_f, eqB_t, eqB_f, ltNB_t, ltNB_f, leNB_t, leNB_f, eqNB_t, eqNB_f, noT, noF, Bool.and_eq_true, Bool.or_eq_true, Bool.and_eq_false_iff, Bool.or_eq_false_iff]
    exact ⟨⟨hs.ok.1⟩, ⟨hs.ok.2⟩⟩
  · exact hs.elim
/-- plane.Cover, plane.Meet: no box, no point. -/
def bothB (a b c d a' b' c' d' : Int) : Bool := properB a b c d && properB a' b' c' d'
def spCover : Spec := fun args _ _ => match args with
  | [.agg [.i .i64 a, .i .i64 b, .i .i64 c, .i .i64 d], .agg [.i .i64 a', .i .i64 b', .i .i64 c', .i .i64 d']] =>
    gives True (.tup [.agg [.i .i64 (.sy fun _ => bif bothB a.val b.val c.val d.val a'.val b'.val c'.val d'.val then min a.val a'.val else 0), .i .i64 (.sy fun _ => bif bothB a.val b.val c.val d.val a'.val b'.val c'.val d'.val then max b.val b'.val else 0), .i .i64 (.sy fun _ => bif bothB a.val b.val c.val d.val a'.val b'.val c'.val d'.val then min c.val c'.val else 0), .i .i64 (.sy fun _ => bif bothB a.val b.val c.val d.val a'.val b'.val c'.val d'.val then max d.val d'.val else 0)], .one (.b (.sy fun _ => bothB a.val b.val c.val d.val a'.val b'.val c'.val d'.val))])
  | _ => bad
theorem okCover : SpecOk F0 Tryz.prog 49 spCover := by
  refine spec_pure (e := en [(51, spProper), (108, spHull)]) (en_ok ⟨okProper, okHull, trivial⟩) rfl (fn := Tryz.f49) (c := fbody Tryz.f49) (by kernel_rfl) rfl rfl (by kernel_rfl) (fun _ _ _ _ => rfl) fun args M base hs => ?_
  unfold spCover at hs ⊢
  split at hs
  · refine ⟨Nat.le_of_ble_eq_true rfl, rfl, rfl, rfl, rfl, fun B => ?_⟩
    rename_i a b c d a' b' c' d'
    cbv
    simp only [implies_true, and_true, true_and, IX.v_lit, IX.v_nat, IX.v_sy, BX.v_lit, BX.v_sy, NX.v_lit, NX.v_sy, addN, in_true, eq_self, Nat.succ_eq_add_one, intD_eq, encInt_le, encText_le, encSpan_le, encPair_le, encBox_le, encNote_le, encSight_le, cell_i_le, Nat.add_zero, Int.toNat_natCast, Nat.lt_irrefl, if_false, and_self, ncast, imp_self, in_self, in_self2, in_and, Int.cast_ofNat_Int, in_and2, ltB_t, ltB_f, leB_t, leB_f, eqB_t, eqB_f, ltNB_t, ltNB_f, leNB_t, leNB_f, eqNB_t, eqNB_f, noT, noF, Bool.and_eq_true, Bool.or_eq_true, Bool.and_eq_false_iff, Bool.or_eq_false_iff]
    refine ⟨fun h => ?_, fun h => ?_⟩
    · have hb : bothB a.val b.val c.val d.val a'.val b'.val c'.val d'.val = false := by
        unfold bothB
        rcases h with h | h <;> simp [h]
      cbv
      simp only [implies_true, and_true, true_and, IX.v_lit, IX.v_nat, IX.v_sy, BX.v_lit, BX.v_sy, NX.v_lit, NX.v_sy, addN, in_true, eq_self, Nat.succ_eq_add_one, intD_eq, encInt_le, encText_le, encSpan_le, encPair_le, encBox_le, encNote_le, encSight_le, cell_i_le, Nat.add_zero, Int.toNat_natCast, Nat.lt_irrefl, if_false, and_self, ncast, imp_self, in_self, in_self2, in_and, Int.cast_ofNat_Int, in_and2, ltB_t, ltB_f, leB_t, leB_f, eqB_t, eqB_f, ltNB_t, ltNB_f, leNB_t, leNB_f, eqNB_t, eqNB_f, noT, noF, Bool.and_eq_true, Bool.or_eq_true, Bool.and_eq_false_iff, Bool.or_eq_false_iff]
      simp only [hb]
      exact ⟨⟨⟨rfl⟩, ⟨rfl⟩, ⟨rfl⟩, ⟨rfl⟩⟩, ⟨trivial⟩⟩
    · have hb : bothB a.val b.val c.val d.val a'.val b'.val c'.val d'.val = true := by
        unfold bothB
        simp [h]
      cbv
      simp only [implies_true, and_true, true_and, IX.v_lit, IX.v_nat, IX.v_sy, BX.v_lit, BX.v_sy, NX.v_lit, NX.v_sy, addN, in_true, eq_self, Nat.succ_eq_add_one, intD_eq, encInt_le, encText_le, encSpan_le, encPair_le, encBox_le, encNote_le, encSight_le, cell_i_le, Nat.add_zero, Int.toNat_natCast, Nat.lt_irrefl, if_false, and_self, ncast, imp_self, in_self, in_self2, in_and, Int.cast_ofNat_Int, in_and2, ltB_t, ltB_f, leB_t, leB_f, eqB_t, eqB_f, ltNB_t, ltNB_f, leNB_t, leNB_f, eqNB_t, eqNB_f, noT, noF, Bool.and_eq_true, Bool.or_eq_true, Bool.and_eq_false_iff, Bool.or_eq_false_iff]
      simp only [hb]
      exact ⟨⟨by kernel_rfl⟩, ⟨⟨rfl⟩, ⟨rfl⟩, ⟨rfl⟩, ⟨rfl⟩⟩, ⟨trivial⟩⟩
  · exact hs.elim
end Go.Proofs.YthgllnnlngihoaaGreat.Sx
end
section
set_option linter.unusedVariables false
set_option linter.unusedSimpArgs false
set_option maxRecDepth 100000
namespace Go.Proofs.YthgllnnlngihoaaGreat.Sx
open Go.RowKit

def holdsB (a b c d x y : Int) : Bool := properB a b c d && inB x a b && inB y c d
def spHolds : Spec := fun args _ _ => match args with
  | [.agg [.i .i64 a, .i .i64 b, .i .i64 c, .i .i64 d], .agg [.i .i64 x, .i .i64 y]] => gives True (cbool (.sy fun _ => holdsB a.val b.val c.val d.val x.val y.val))
  | _ => bad
theorem okHolds : SpecOk F0 Tryz.prog 56 spHolds := by
  refine spec_pure (e := en [(51, spProper), (115, spWithin)]) (en_ok ⟨okProper, okWithin115, trivial⟩) rfl (fn := Tryz.f56) (c := fbody Tryz.f56) (by kernel_rfl) rfl rfl (by kernel_rfl) (fun _ _ _ _ => rfl) fun args M base hs => ?_
  unfold spHolds at hs ⊢
  split at hs
  · refine ⟨Nat.le_of_ble_eq_true rfl, rfl, rfl, rfl, rfl, fun B => ?_⟩
    cbv
    simp only [implies_true, and_true, true_and, IX.v_lit, IX.v_nat, IX.v_sy, BX.v_lit, BX.v_sy, NX.v_lit, NX.v_sy, addN, in_true, eq_self, Nat.succ_eq_add_one, intD_eq, encInt_le, encText_le, encSpan_le, encPair_le, encBox_le, encNote_le, encSight_le, cell_i_le, Nat.add_zero, Int.toNat_natCast, Nat.lt_irrefl, if_false, and_self, ncast, imp_self, in_self, in_self2, in_and, Int.cast_ofNat_Int, in_and2, ltB_t, ltB_f, leB_t, leB_f, eqB_t, eqB_f, ltNB_t, ltNB_f, leNB_t, leNB_f, eqNB_t, eqNB_f, noT, noF, Bool.and_eq_true, Bool.or_eq_true, Bool.and_eq_false_iff, Bool.or_eq_false_iff]
    all_goals exact ⟨rfl⟩
  · exact hs.elim
theorem okRefHolds : SpecOk F0 Tryz.prog 112 spHolds := by
  refine spec_pure (e := en [(102, spProper), (157, spWithin)]) (en_ok ⟨okProper102, okWithin157, trivial⟩) rfl (fn := Tryz.f112) (c := fbody Tryz.f112) (by kernel_rfl) rfl rfl (by kernel_rfl) (fun _ _ _ _ => rfl) fun args M base hs => ?_
  unfold spHolds at hs ⊢
  split at hs
  · refine ⟨Nat.le_of_ble_eq_true rfl, rfl, rfl, rfl, rfl, fun B => ?_⟩
    cbv
    simp only [implies_true, and_true, true_and, IX.v_lit, IX.v_nat, IX.v_sy, BX.v_lit, BX.v_sy, NX.v_lit, NX.v_sy, addN, in_true, eq_self, Nat.succ_eq_add_one, intD_eq, encInt_le, encText_le, encSpan_le, encPair_le, encBox_le, encNote_le, encSight_le, cell_i_le, Nat.add_zero, Int.toNat_natCast, Nat.lt_irrefl, if_false, and_self, ncast, imp_self, in_self, in_self2, in_and, Int.cast_ofNat_Int, in_and2, ltB_t, ltB_f, leB_t, leB_f, eqB_t, eqB_f, ltNB_t, ltNB_f, leNB_t, leNB_f, eqNB_t, eqNB_f, noT, noF, Bool.and_eq_true, Bool.or_eq_true, Bool.and_eq_false_iff, Bool.or_eq_false_iff]
    all_goals exact ⟨rfl⟩
  · exact hs.elim
def nearB (a b c d wd : Int) : Bool := inB (a - c) (-wd) wd && inB (b - d) (-wd) wd
def spNearP : Spec := fun args _ _ => match args with
  | [.agg [.i .i64 a, .i .i64 b], .agg [.i .i64 c, .i .i64 d], .one (.i .i64 wd)] => gives (In fun _ => fitsK .i64 (a.val - c.val) ∧ fitsK .i64 (b.val - d.val) ∧ fitsK .i64 (-wd.val)) (cbool (.sy fun _ => nearB a.val b.val c.val d.val wd.val))
  | _ => bad
theorem okNearP : SpecOk F0 Tryz.prog 156 spNearP := by
  refine spec_pure (e := en [(81, spWithin)]) (en_ok ⟨okWithin, trivial⟩) rfl (fn := Tryz.f156) (c := fbody Tryz.f156) (by kernel_rfl) rfl rfl (by kernel_rfl) (fun _ _ _ _ => rfl) fun args M base hs => ?_
  unfold spNearP at hs ⊢
  split at hs
  · refine ⟨Nat.le_of_ble_eq_true rfl, rfl, rfl, rfl, rfl, fun B => ?_⟩
    obtain ⟨h1, h2, h3⟩ := hs.ok
    cbv
    simp only [implies_true, and_true, true_and, IX.v_lit, IX.v_nat, IX.v_sy, BX.v_lit, BX.v_sy, NX.v_lit, NX.v_sy, addN, in_true, eq_self, Nat.succ_eq_add_one, intD_eq, encInt_le, encText_le, encSpan_le, encPair_le, encBox_le, encNote_le, encSight_le, cell_i_le, Nat.add_zero, Int.toNat_natCast, Nat.lt_irrefl, if_false, and_self, ncast, imp_self, in_self, in_self2, in_and, Int.cast_ofNat_Int, in_and2, ltB_t, ltB_f, leB_t, leB_f, eqB_t, eqB_f, ltNB_t, ltNB_f, leNB_t, leNB_f, eqNB_t, eqNB_f, noT, noF, Bool.and_eq_true, Bool.or_eq_true, Bool.and_eq_false_iff, Bool.or_eq_false_iff]
    exact ⟨⟨h1⟩, ⟨h3⟩, fun _ => ⟨h2⟩, fun _ => ⟨h3⟩, ⟨rfl⟩⟩
  · exact hs.elim
end Go.Proofs.YthgllnnlngihoaaGreat.Sx
end
section
set_option linter.unusedVariables false
set_option linter.unusedSimpArgs false
set_option maxRecDepth 100000
namespace Go.Proofs.YthgllnnlngihoaaGreat.Sx
open Go.RowKit

def spSanity : Spec := fun args _ _ => match args with
  | [] => gives True (cbool (.lit true))
  | _ => bad
def spLaw6 : Spec := fun args _ _ => match args with
  | [.one (.s p), .one (.s q), .agg [.i .i64 id, .i .i64 y, .i .i64 a, .i .i64 b, .i .i64 c, .i .i64 d, .s s, .i .i64 lo, .i .i64 hi]] => gives True (cbool (.lit true))
  | _ => bad
theorem okLaw6 (hS : SpecOk F0 Tryz.prog 16 spSanity) : SpecOk F0 Tryz.prog 6 spLaw6 := by
  refine spec_pure (e := en [(16, spSanity), (36, spBlend), (37, spRefBlend), (38, spReads), (39, spRefReads), (40, spAgree), (41, spRefAgree), (42, spSight), (43, spRefSight)]) (en_ok ⟨hS, okBlend, okRefBlend, okReads, okRefReads, okAgree, okRefAgree, okSight, okRefSight, trivial⟩) rfl (fn := Tryz.f6) (c := fbody Tryz.f6) (by kernel_rfl) rfl rfl (by kernel_rfl) (fun _ _ _ _ => rfl) fun args M base hs => ?_
  unfold spLaw6 at hs ⊢
  split at hs
  · refine ⟨Nat.le_of_ble_eq_true rfl, rfl, rfl, rfl, rfl, fun B => ?_⟩
    rename_i p q id y a b c d s lo hi
    obtain ⟨p, rfl⟩ : ∃ t, p = fun _ => t := ⟨p (), rfl⟩
    obtain ⟨q, rfl⟩ : ∃ t, q = fun _ => t := ⟨q (), rfl⟩
    obtain ⟨s, rfl⟩ : ∃ t, s = fun _ => t := ⟨s (), rfl⟩
    cbv
    simp only [implies_true, and_true, true_and, IX.v_lit, IX.v_nat, IX.v_sy, BX.v_lit, BX.v_sy, NX.v_lit, NX.v_sy, addN, in_true, eq_self, Nat.succ_eq_add_one, intD_eq, encInt_le, encText_le, encSpan_le, encPair_le, encBox_le, encNote_le, encSight_le, cell_i_le, Nat.add_zero, Int.toNat_natCast, Nat.lt_irrefl, if_false, and_self, ncast, imp_self, in_self, in_self2, in_and, Int.cast_ofNat_Int, in_and2, ltB_t, ltB_f, leB_t, leB_f, eqB_t, eqB_f, ltNB_t, ltNB_f, leNB_t, leNB_f, eqNB_t, eqNB_f, noT, noF, Bool.and_eq_true, Bool.or_eq_true, Bool.and_eq_false_iff, Bool.or_eq_false_iff]
    refine ⟨fun h => ?_, fun h => ?_⟩
    · cbv
    · obtain ⟨⟨hp, hq⟩, hs'⟩ := h
      have hp : p.size ≤ 20 := by (first | omega | (simp only [ncast] at *; omega))
      have hq : q.size ≤ 20 := by (first | omega | (simp only [ncast] at *; omega))
      have hs' : s.size ≤ 20 := by (first | omega | (simp only [ncast] at *; omega))
      cbv
      simp only [implies_true, and_true, true_and, IX.v_lit, IX.v_nat, IX.v_sy, BX.v_lit, BX.v_sy, NX.v_lit, NX.v_sy, addN, in_true, eq_self, Nat.succ_eq_add_one, intD_eq, encInt_le, encText_le, encSpan_le, encPair_le, encBox_le, encNote_le, encSight_le, cell_i_le, Nat.add_zero, Int.toNat_natCast, Nat.lt_irrefl, if_false, and_self, ncast, imp_self, in_self, in_self2, in_and, Int.cast_ofNat_Int, in_and2, ltB_t, ltB_f, leB_t, leB_f, eqB_t, eqB_f, ltNB_t, ltNB_f, leNB_t, leNB_f, eqNB_t, eqNB_f, noT, noF, Bool.and_eq_true, Bool.or_eq_true, Bool.and_eq_false_iff, Bool.or_eq_false_iff]
      have e1 : eqS (blendS p q) (blendS p q) = true := by unfold eqS; rw [beq_toListBytes]; simp
      exact ⟨⟨by omega, by omega⟩, ⟨by omega, by omega⟩, fun _ => ⟨by omega, by omega⟩, fun _ => ⟨by omega⟩, ⟨by rw [e1]; simp [eqB]⟩⟩
  · exact hs.elim
end Go.Proofs.YthgllnnlngihoaaGreat.Sx
end
section
set_option linter.unusedVariables false
set_option linter.unusedSimpArgs false
set_option maxRecDepth 100000
namespace Go.Proofs.YthgllnnlngihoaaGreat.Sx
open Go.RowKit

def changesN : List Int → Nat
  | [] => 0
  | k :: r => (if k = 0 then 0 else 1) + changesN r
def changesTo (xs : List Int) (i : Nat) : Nat := changesN (xs.take i)
theorem changesTo_zero (xs : List Int) : changesTo xs 0 = 0 := rfl
theorem changesTo_all (xs : List Int) {i : Nat} (h : xs.length ≤ i) : changesTo xs i = changesN xs := by
  unfold changesTo
  rw [List.take_of_length_le h]
theorem changesTo_succ : ∀ (xs : List Int) {i : Nat}, i < xs.length → changesTo xs (i + 1) = changesTo xs i + (if xs.getD i 0 = 0 then 0 else 1)
  | [], i, h => by simp at h
  | x :: xs, 0, _ => by simp [changesTo, changesN]
  | x :: xs, i + 1, h => by
    have ih := changesTo_succ xs (i := i) (by simp at h ⊢; omega)
    unfold changesTo at ih ⊢
    rw [List.take_succ_cons, changesN, ih, List.take_succ_cons, changesN]
    simp only [List.getD_cons_succ]
    omega
theorem changesTo_le (xs : List Int) (i : Nat) : changesTo xs i ≤ i := by
  unfold changesTo
  induction xs generalizing i with
  | nil => simp [changesN]
  | cons x xs ih => cases i with
    | zero => simp [changesN]
    | succ i =>
      rw [List.take_succ_cons, changesN]
      have := ih i
      split <;> omega
def spChanges : Spec := fun args M _ => match args with
  | [.one c] => ⟨In fun _ => okInts M c ∧ (ints M c).length ≤ 140737488355328, cint .i64 (.nat (fun _ => changesN (ints M c)) 0), [], [], (seen M c).reads⟩
  | _ => bad
theorem congrChanges : spChanges.Congr := by
  intro args M M' base hs h
  unfold spChanges at *
  split at hs
  · simp only [ints, okInts] at h ⊢
    rw [seen_congr (M := M) (M' := M') h]
  · exact hs.elim
theorem okChanges : SpecOk F0 Tryz.prog 90 spChanges := by
  refine spec_val (e := en []) (en_ok trivial) rfl (fn := Tryz.f90) (c := fbody Tryz.f90) (by kernel_rfl) rfl rfl (by kernel_rfl) congrChanges fun args M base hs => ?_
  unfold spChanges at hs ⊢
  split at hs
  · rename_i c
    refine ⟨[.one (.ref 0)], [intRow .ro (ints M c)], Nat.le_of_ble_eq_true rfl, trivial, .row (int_from hs.ok.1) .nil, rfl, rfl, rfl, fun B => ?_⟩
    have hsz : (ints M c).length ≤ 140737488355328 := hs.ok.2
    clear hs
    show vc _ _ _ _ fun x st => _ ∧ _ ∧ IvLe _ _ (cint .i64 (.nat (fun _ => changesN (ints M c)) 0))
    revert hsz
    generalize ints M c = xs
    intro hsz
    cbv
    simp only [implies_true, and_true, true_and, IX.v_lit, IX.v_nat, IX.v_sy, BX.v_lit, BX.v_sy, NX.v_lit, NX.v_sy, addN, in_true, eq_self, Nat.succ_eq_add_one, intD_eq, encInt_le, encText_le, encSpan_le, encPair_le, encBox_le, encNote_le, encSight_le, cell_i_le, Nat.add_zero, Int.toNat_natCast, Nat.lt_irrefl, if_false, and_self, ncast, imp_self, in_self, in_self2, in_and, Int.cast_ofNat_Int, in_and2, ltB_t, ltB_f, leB_t, leB_f, eqB_t, eqB_f, ltNB_t, ltNB_f, leNB_t, leNB_f, eqNB_t, eqNB_f, noT, noF, Bool.and_eq_true, Bool.or_eq_true, Bool.and_eq_false_iff, Bool.or_eq_false_iff]
    refine ⟨{i : Nat // i ≤ xs.length}, fun i => ⟨[(3, .lit true, cint .i64 (.nat (fun _ => changesTo xs i.1) 0)), (6, .lit true, .one (.ref 0)), (7, .lit true, cint .i64 (.nat (fun _ => xs.length) 0)), (8, .lit true, cint .i64 (.nat (fun _ => i.1) 0))], [(0, intRow .ro xs)], 1⟩, fun i => xs.length - i.1, ⟨0, by omega⟩, LeBy.le (pins := []) (fun i u h => by cases h) (l := [(0, .old 0)]) ?_, fun i => ?_⟩
    · cbv
      simp only [implies_true, and_true, true_and, IX.v_lit, IX.v_nat, IX.v_sy, BX.v_lit, BX.v_sy, NX.v_lit, NX.v_sy, addN, in_true, eq_self, Nat.succ_eq_add_one, intD_eq, encInt_le, encText_le, encSpan_le, encPair_le, encBox_le, encNote_le, encSight_le, cell_i_le, Nat.add_zero, Int.toNat_natCast, Nat.lt_irrefl, if_false, and_self, ncast, imp_self, in_self, in_self2, in_and, Int.cast_ofNat_Int, in_and2, ltB_t, ltB_f, leB_t, leB_f, eqB_t, eqB_f, ltNB_t, ltNB_f, leNB_t, leNB_f, eqNB_t, eqNB_f, noT, noF, Bool.and_eq_true, Bool.or_eq_true, Bool.and_eq_false_iff, Bool.or_eq_false_iff]
      exact ⟨rfl⟩
    · obtain ⟨i, hi⟩ := i
      cbv
      simp only [implies_true, and_true, true_and, IX.v_lit, IX.v_nat, IX.v_sy, BX.v_lit, BX.v_sy, NX.v_lit, NX.v_sy, addN, in_true, eq_self, Nat.succ_eq_add_one, intD_eq, encInt_le, encText_le, encSpan_le, encPair_le, encBox_le, encNote_le, encSight_le, cell_i_le, Nat.add_zero, Int.toNat_natCast, Nat.lt_irrefl, if_false, and_self, ncast, imp_self, in_self, in_self2, in_and, Int.cast_ofNat_Int, in_and2, ltB_t, ltB_f, leB_t, leB_f, eqB_t, eqB_f, ltNB_t, ltNB_f, leNB_t, leNB_f, eqNB_t, eqNB_f, noT, noF, Bool.and_eq_true, Bool.or_eq_true, Bool.and_eq_false_iff, Bool.or_eq_false_iff]
      refine ⟨fun hlt => ?_, fun hlt => ?_⟩
      · have hle := changesTo_le xs i
        have hsucc := changesTo_succ xs hlt
        cbv
        simp only [implies_true, and_true, true_and, IX.v_lit, IX.v_nat, IX.v_sy, BX.v_lit, BX.v_sy, NX.v_lit, NX.v_sy, addN, in_true, eq_self, Nat.succ_eq_add_one, intD_eq, encInt_le, encText_le, encSpan_le, encPair_le, encBox_le, encNote_le, encSight_le, cell_i_le, Nat.add_zero, Int.toNat_natCast, Nat.lt_irrefl, if_false, and_self, ncast, imp_self, in_self, in_self2, in_and, Int.cast_ofNat_Int, in_and2, ltB_t, ltB_f, leB_t, leB_f, eqB_t, eqB_f, ltNB_t, ltNB_f, leNB_t, leNB_f, eqNB_t, eqNB_f, noT, noF, Bool.and_eq_true, Bool.or_eq_true, Bool.and_eq_false_iff, Bool.or_eq_false_iff]
        refine ⟨⟨hlt⟩, ⟨hlt⟩, fun h0 => ?_, fun h0 => ?_⟩
        · rw [if_neg h0] at hsucc
          cbv
          simp only [implies_true, and_true, true_and, IX.v_lit, IX.v_nat, IX.v_sy, BX.v_lit, BX.v_sy, NX.v_lit, NX.v_sy, addN, in_true, eq_self, Nat.succ_eq_add_one, intD_eq, encInt_le, encText_le, encSpan_le, encPair_le, encBox_le, encNote_le, encSight_le, cell_i_le, Nat.add_zero, Int.toNat_natCast, Nat.lt_irrefl, if_false, and_self, ncast, imp_self, in_self, in_self2, in_and, Int.cast_ofNat_Int, in_and2, ltB_t, ltB_f, leB_t, leB_f, eqB_t, eqB_f, ltNB_t, ltNB_f, leNB_t, leNB_f, eqNB_t, eqNB_f, noT, noF, Bool.and_eq_true, Bool.or_eq_true, Bool.and_eq_false_iff, Bool.or_eq_false_iff]
          refine ⟨⟨nat_fits (n := xs.length) (by omega) hsz⟩, ⟨nat_fits hlt hsz⟩, ⟨i + 1, by omega⟩, LeBy.le (pins := []) (fun i u h => by cases h) (l := [(0, .old 0)]) ?_, by show xs.length - (i + 1) < xs.length - i; omega⟩
          cbv
          simp only [implies_true, and_true, true_and, IX.v_lit, IX.v_nat, IX.v_sy, BX.v_lit, BX.v_sy, NX.v_lit, NX.v_sy, addN, in_true, eq_self, Nat.succ_eq_add_one, intD_eq, encInt_le, encText_le, encSpan_le, encPair_le, encBox_le, encNote_le, encSight_le, cell_i_le, Nat.add_zero, Int.toNat_natCast, Nat.lt_irrefl, if_false, and_self, ncast, imp_self, in_self, in_self2, in_and, Int.cast_ofNat_Int, in_and2, ltB_t, ltB_f, leB_t, leB_f, eqB_t, eqB_f, ltNB_t, ltNB_f, leNB_t, leNB_f, eqNB_t, eqNB_f, noT, noF, Bool.and_eq_true, Bool.or_eq_true, Bool.and_eq_false_iff, Bool.or_eq_false_iff]
          exact ⟨hsucc⟩
        · rw [if_pos h0] at hsucc
          cbv
          simp only [implies_true, and_true, true_and, IX.v_lit, IX.v_nat, IX.v_sy, BX.v_lit, BX.v_sy, NX.v_lit, NX.v_sy, addN, in_true, eq_self, Nat.succ_eq_add_one, intD_eq, encInt_le, encText_le, encSpan_le, encPair_le, encBox_le, encNote_le, encSight_le, cell_i_le, Nat.add_zero, Int.toNat_natCast, Nat.lt_irrefl, if_false, and_self, ncast, imp_self, in_self, in_self2, in_and, Int.cast_ofNat_Int, in_and2, ltB_t, ltB_f, leB_t, leB_f, eqB_t, eqB_f, ltNB_t, ltNB_f, leNB_t, leNB_f, eqNB_t, eqNB_f, noT, noF, Bool.and_eq_true, Bool.or_eq_true, Bool.and_eq_false_iff, Bool.or_eq_false_iff]
          refine ⟨⟨nat_fits hlt hsz⟩, ⟨i + 1, by omega⟩, LeBy.le (pins := []) (fun i u h => by cases h) (l := [(0, .old 0)]) ?_, by show xs.length - (i + 1) < xs.length - i; omega⟩
          cbv
          simp only [implies_true, and_true, true_and, IX.v_lit, IX.v_nat, IX.v_sy, BX.v_lit, BX.v_sy, NX.v_lit, NX.v_sy, addN, in_true, eq_self, Nat.succ_eq_add_one, intD_eq, encInt_le, encText_le, encSpan_le, encPair_le, encBox_le, encNote_le, encSight_le, cell_i_le, Nat.add_zero, Int.toNat_natCast, Nat.lt_irrefl, if_false, and_self, ncast, imp_self, in_self, in_self2, in_and, Int.cast_ofNat_Int, in_and2, ltB_t, ltB_f, leB_t, leB_f, eqB_t, eqB_f, ltNB_t, ltNB_f, leNB_t, leNB_f, eqNB_t, eqNB_f, noT, noF, Bool.and_eq_true, Bool.or_eq_true, Bool.and_eq_false_iff, Bool.or_eq_false_iff]
          exact ⟨by rw [hsucc]; rfl⟩
      · cbv
        simp only [implies_true, and_true, true_and, IX.v_lit, IX.v_nat, IX.v_sy, BX.v_lit, BX.v_sy, NX.v_lit, NX.v_sy, addN, in_true, eq_self, Nat.succ_eq_add_one, intD_eq, encInt_le, encText_le, encSpan_le, encPair_le, encBox_le, encNote_le, encSight_le, cell_i_le, Nat.add_zero, Int.toNat_natCast, Nat.lt_irrefl, if_false, and_self, ncast, imp_self, in_self, in_self2, in_and, Int.cast_ofNat_Int, in_and2, ltB_t, ltB_f, leB_t, leB_f, eqB_t, eqB_f, ltNB_t, ltNB_f, leNB_t, leNB_f, eqNB_t, eqNB_f, noT, noF, Bool.and_eq_true, Bool.or_eq_true, Bool.and_eq_false_iff, Bool.or_eq_false_iff]
        exact ⟨by rw [changesTo_all xs (by omega)]⟩
  · exact hs.elim
end Go.Proofs.YthgllnnlngihoaaGreat.Sx
end
section
set_option linter.unusedVariables false
set_option linter.unusedSimpArgs false
set_option maxRecDepth 100000
namespace Go.Proofs.YthgllnnlngihoaaGreat.Sx
open Go.RowKit

theorem okRefChanges : SpecOk F0 Tryz.prog 55 spChanges := by
  refine spec_val (e := en []) (en_ok trivial) rfl (fn := Tryz.f55) (c := fbody Tryz.f55) (by kernel_rfl) rfl rfl (by kernel_rfl) congrChanges fun args M base hs => ?_
  unfold spChanges at hs ⊢
  split at hs
  · rename_i c
    refine ⟨[.one (.ref 0)], [intRow .ro (ints M c)], Nat.le_of_ble_eq_true rfl, trivial, .row (int_from hs.ok.1) .nil, rfl, rfl, rfl, fun B => ?_⟩
    have hsz : (ints M c).length ≤ 140737488355328 := hs.ok.2
    clear hs
    show vc _ _ _ _ fun x st => _ ∧ _ ∧ IvLe _ _ (cint .i64 (.nat (fun _ => changesN (ints M c)) 0))
    revert hsz
    generalize ints M c = xs
    intro hsz
    cbv
    simp only [implies_true, and_true, true_and, IX.v_lit, IX.v_nat, IX.v_sy, BX.v_lit, BX.v_sy, NX.v_lit, NX.v_sy, addN, in_true, eq_self, Nat.succ_eq_add_one, intD_eq, encInt_le, encText_le, encSpan_le, encPair_le, encBox_le, encNote_le, encSight_le, cell_i_le, Nat.add_zero, Int.toNat_natCast, Nat.lt_irrefl, if_false, and_self, ncast, imp_self, in_self, in_self2, in_and, Int.cast_ofNat_Int, in_and2, ltB_t, ltB_f, leB_t, leB_f, eqB_t, eqB_f, ltNB_t, ltNB_f, leNB_t, leNB_f, eqNB_t, eqNB_f, noT, noF, Bool.and_eq_true, Bool.or_eq_true, Bool.and_eq_false_iff, Bool.or_eq_false_iff]
    refine ⟨{i : Nat // i ≤ xs.length}, fun i => ⟨[(0, .lit true, .one (.ref 0)), (3, .lit true, cint .i64 (.nat (fun _ => changesTo xs i.1) 0)), (4, .lit true, cint .i64 (.nat (fun _ => i.1) 0))], [(0, intRow .ro xs)], 1⟩, fun i => xs.length - i.1, ⟨0, by omega⟩, LeBy.le (pins := []) (fun i u h => by cases h) (l := [(0, .old 0)]) ?_, fun i => ?_⟩
    · cbv
      simp only [implies_true, and_true, true_and, IX.v_lit, IX.v_nat, IX.v_sy, BX.v_lit, BX.v_sy, NX.v_lit, NX.v_sy, addN, in_true, eq_self, Nat.succ_eq_add_one, intD_eq, encInt_le, encText_le, encSpan_le, encPair_le, encBox_le, encNote_le, encSight_le, cell_i_le, Nat.add_zero, Int.toNat_natCast, Nat.lt_irrefl, if_false, and_self, ncast, imp_self, in_self, in_self2, in_and, Int.cast_ofNat_Int, in_and2, ltB_t, ltB_f, leB_t, leB_f, eqB_t, eqB_f, ltNB_t, ltNB_f, leNB_t, leNB_f, eqNB_t, eqNB_f, noT, noF, Bool.and_eq_true, Bool.or_eq_true, Bool.and_eq_false_iff, Bool.or_eq_false_iff]
      exact ⟨rfl⟩
    · obtain ⟨i, hi⟩ := i
      cbv
      simp only [implies_true, and_true, true_and, IX.v_lit, IX.v_nat, IX.v_sy, BX.v_lit, BX.v_sy, NX.v_lit, NX.v_sy, addN, in_true, eq_self, Nat.succ_eq_add_one, intD_eq, encInt_le, encText_le, encSpan_le, encPair_le, encBox_le, encNote_le, encSight_le, cell_i_le, Nat.add_zero, Int.toNat_natCast, Nat.lt_irrefl, if_false, and_self, ncast, imp_self, in_self, in_self2, in_and, Int.cast_ofNat_Int, in_and2, ltB_t, ltB_f, leB_t, leB_f, eqB_t, eqB_f, ltNB_t, ltNB_f, leNB_t, leNB_f, eqNB_t, eqNB_f, noT, noF, Bool.and_eq_true, Bool.or_eq_true, Bool.and_eq_false_iff, Bool.or_eq_false_iff]
      refine ⟨fun hlt => ?_, fun hlt => ?_⟩
      · have hle := changesTo_le xs i
        have hsucc := changesTo_succ xs hlt
        cbv
        simp only [implies_true, and_true, true_and, IX.v_lit, IX.v_nat, IX.v_sy, BX.v_lit, BX.v_sy, NX.v_lit, NX.v_sy, addN, in_true, eq_self, Nat.succ_eq_add_one, intD_eq, encInt_le, encText_le, encSpan_le, encPair_le, encBox_le, encNote_le, encSight_le, cell_i_le, Nat.add_zero, Int.toNat_natCast, Nat.lt_irrefl, if_false, and_self, ncast, imp_self, in_self, in_self2, in_and, Int.cast_ofNat_Int, in_and2, ltB_t, ltB_f, leB_t, leB_f, eqB_t, eqB_f, ltNB_t, ltNB_f, leNB_t, leNB_f, eqNB_t, eqNB_f, noT, noF, Bool.and_eq_true, Bool.or_eq_true, Bool.and_eq_false_iff, Bool.or_eq_false_iff]
        refine ⟨⟨hlt⟩, ⟨hlt⟩, fun h0 => ?_, fun h0 => ?_⟩
        · rw [if_neg h0] at hsucc
          cbv
          simp only [implies_true, and_true, true_and, IX.v_lit, IX.v_nat, IX.v_sy, BX.v_lit, BX.v_sy, NX.v_lit, NX.v_sy, addN, in_true, eq_self, Nat.succ_eq_add_one, intD_eq, encInt_le, encText_le, encSpan_le, encPair_le, encBox_le, encNote_le, encSight_le, cell_i_le, Nat.add_zero, Int.toNat_natCast, Nat.lt_irrefl, if_false, and_self, ncast, imp_self, in_self, in_self2, in_and, Int.cast_ofNat_Int, in_and2, ltB_t, ltB_f, leB_t, leB_f, eqB_t, eqB_f, ltNB_t, ltNB_f, leNB_t, leNB_f, eqNB_t, eqNB_f, noT, noF, Bool.and_eq_true, Bool.or_eq_true, Bool.and_eq_false_iff, Bool.or_eq_false_iff]
          refine ⟨⟨nat_fits (n := xs.length) (by omega) hsz⟩, ⟨nat_fits hlt hsz⟩, ⟨i + 1, by omega⟩, LeBy.le (pins := []) (fun i u h => by cases h) (l := [(0, .old 0)]) ?_, by show xs.length - (i + 1) < xs.length - i; omega⟩
          cbv
          simp only [implies_true, and_true, true_and, IX.v_lit, IX.v_nat, IX.v_sy, BX.v_lit, BX.v_sy, NX.v_lit, NX.v_sy, addN, in_true, eq_self, Nat.succ_eq_add_one, intD_eq, encInt_le, encText_le, encSpan_le, encPair_le, encBox_le, encNote_le, encSight_le, cell_i_le, Nat.add_zero, Int.toNat_natCast, Nat.lt_irrefl, if_false, and_self, ncast, imp_self, in_self, in_self2, in_and, Int.cast_ofNat_Int, in_and2, ltB_t, ltB_f, leB_t, leB_f, eqB_t, eqB_f, ltNB_t, ltNB_f, leNB_t, leNB_f, eqNB_t, eqNB_f, noT, noF, Bool.and_eq_true, Bool.or_eq_true, Bool.and_eq_false_iff, Bool.or_eq_false_iff]
          exact ⟨hsucc⟩
        · rw [if_pos h0] at hsucc
          cbv
          simp only [implies_true, and_true, true_and, IX.v_lit, IX.v_nat, IX.v_sy, BX.v_lit, BX.v_sy, NX.v_lit, NX.v_sy, addN, in_true, eq_self, Nat.succ_eq_add_one, intD_eq, encInt_le, encText_le, encSpan_le, encPair_le, encBox_le, encNote_le, encSight_le, cell_i_le, Nat.add_zero, Int.toNat_natCast, Nat.lt_irrefl, if_false, and_self, ncast, imp_self, in_self, in_self2, in_and, Int.cast_ofNat_Int, in_and2, ltB_t, ltB_f, leB_t, leB_f, eqB_t, eqB_f, ltNB_t, ltNB_f, leNB_t, leNB_f, eqNB_t, eqNB_f, noT, noF, Bool.and_eq_true, Bool.or_eq_true, Bool.and_eq_false_iff, Bool.or_eq_false_iff]
          refine ⟨⟨nat_fits hlt hsz⟩, ⟨i + 1, by omega⟩, LeBy.le (pins := []) (fun i u h => by cases h) (l := [(0, .old 0)]) ?_, by show xs.length - (i + 1) < xs.length - i; omega⟩
          cbv
          simp only [implies_true, and_true, true_and, IX.v_lit, IX.v_nat, IX.v_sy, BX.v_lit, BX.v_sy, NX.v_lit, NX.v_sy, addN, in_true, eq_self, Nat.succ_eq_add_one, intD_eq, encInt_le, encText_le, encSpan_le, encPair_le, encBox_le, encNote_le, encSight_le, cell_i_le, Nat.add_zero, Int.toNat_natCast, Nat.lt_irrefl, if_false, and_self, ncast, imp_self, in_self, in_self2, in_and, Int.cast_ofNat_Int, in_and2, ltB_t, ltB_f, leB_t, leB_f, eqB_t, eqB_f, ltNB_t, ltNB_f, leNB_t, leNB_f, eqNB_t, eqNB_f, noT, noF, Bool.and_eq_true, Bool.or_eq_true, Bool.and_eq_false_iff, Bool.or_eq_false_iff]
          exact ⟨by rw [hsucc]; rfl⟩
      · cbv
        simp only [implies_true, and_true, true_and, IX.v_lit, IX.v_nat, IX.v_sy, BX.v_lit, BX.v_sy, NX.v_lit, NX.v_sy, addN, in_true, eq_self, Nat.succ_eq_add_one, intD_eq, encInt_le, encText_le, encSpan_le, encPair_le, encBox_le, encNote_le, encSight_le, cell_i_le, Nat.add_zero, Int.toNat_natCast, Nat.lt_irrefl, if_false, and_self, ncast, imp_self, in_self, in_self2, in_and, Int.cast_ofNat_Int, in_and2, ltB_t, ltB_f, leB_t, leB_f, eqB_t, eqB_f, ltNB_t, ltNB_f, leNB_t, leNB_f, eqNB_t, eqNB_f, noT, noF, Bool.and_eq_true, Bool.or_eq_true, Bool.and_eq_false_iff, Bool.or_eq_false_iff]
        exact ⟨by rw [changesTo_all xs (by omega)]⟩
  · exact hs.elim

def sameB (l m : List Int) : Bool := decide (l = m)
theorem same_of {l m : List Int} (hl : l.length = m.length) (h : ∀ j, j < l.length → l.getD j 0 = m.getD j 0) : l = m := by
  apply List.ext_getElem?
  intro i
  by_cases hi : i < l.length
  · have := h i hi
    rw [List.getD_eq_getElem?_getD, List.getD_eq_getElem?_getD, List.getElem?_eq_getElem hi, List.getElem?_eq_getElem (by omega)] at this
    rw [List.getElem?_eq_getElem hi, List.getElem?_eq_getElem (by omega)]
    exact congrArg some this
  · rw [List.getElem?_eq_none (by omega), List.getElem?_eq_none (by omega)]
def spSameInts : Spec := fun args M _ => match args with
  | [.one c, .one d] => ⟨In fun _ => okInts M c ∧ (ints M c).length ≤ 140737488355328 ∧ okInts M d, cbool (.sy fun _ => sameB (ints M c) (ints M d)), [], [], (seen M c).reads ++ (seen M d).reads⟩
  | _ => bad
theorem congrSameInts : spSameInts.Congr := by
  intro args M M' base hs h
  unfold spSameInts at *
  split at hs
  · simp only [ints, okInts] at h ⊢
    rw [seen_congr (M := M) (M' := M') (fun i hi => h i (List.mem_append_left _ hi)), seen_congr (M := M) (M' := M') (fun i hi => h i (List.mem_append_right _ hi))]
  · exact hs.elim
theorem okSameInts : SpecOk F0 Tryz.prog 32 spSameInts := by
  refine spec_val (e := en []) (en_ok trivial) rfl (fn := Tryz.f32) (c := fbody Tryz.f32) (by kernel_rfl) rfl rfl (by kernel_rfl) congrSameInts fun args M base hs => ?_
  unfold spSameInts at hs ⊢
  split at hs
  · rename_i c d
    refine ⟨[.one (.ref 0), .one (.ref 1)], [intRow .ro (ints M c), intRow .ro (ints M d)], Nat.le_of_ble_eq_true rfl, trivial, .row (int_from hs.ok.1) (.row (int_from hs.ok.2.2) .nil), rfl, rfl, rfl, fun B => ?_⟩
    have hsz : (ints M c).length ≤ 140737488355328 := hs.ok.2.1
    clear hs
    show vc _ _ _ _ fun x st => _ ∧ _ ∧ IvLe _ _ (cbool (.sy fun _ => sameB (ints M c) (ints M d)))
    revert hsz
    generalize ints M c = xs
    generalize ints M d = ys
    intro hsz
    cbv
    simp only [implies_true, and_true, true_and, IX.v_lit, IX.v_nat, IX.v_sy, BX.v_lit, BX.v_sy, NX.v_lit, NX.v_sy, addN, in_true, eq_self, Nat.succ_eq_add_one, intD_eq, encInt_le, encText_le, encSpan_le, encPair_le, encBox_le, encNote_le, encSight_le, cell_i_le, Nat.add_zero, Int.toNat_natCast, Nat.lt_irrefl, if_false, and_self, ncast, imp_self, in_self, in_self2, in_and, Int.cast_ofNat_Int, in_and2, ltB_t, ltB_f, leB_t, leB_f, eqB_t, eqB_f, ltNB_t, ltNB_f, leNB_t, leNB_f, eqNB_t, eqNB_f, noT, noF, Bool.and_eq_true, Bool.or_eq_true, Bool.and_eq_false_iff, Bool.or_eq_false_iff]
    refine ⟨fun h => ?_, fun h => ?_⟩
    · cbv
      simp only [implies_true, and_true, true_and, IX.v_lit, IX.v_nat, IX.v_sy, BX.v_lit, BX.v_sy, NX.v_lit, NX.v_sy, addN, in_true, eq_self, Nat.succ_eq_add_one, intD_eq, encInt_le, encText_le, encSpan_le, encPair_le, encBox_le, encNote_le, encSight_le, cell_i_le, Nat.add_zero, Int.toNat_natCast, Nat.lt_irrefl, if_false, and_self, ncast, imp_self, in_self, in_self2, in_and, Int.cast_ofNat_Int, in_and2, ltB_t, ltB_f, leB_t, leB_f, eqB_t, eqB_f, ltNB_t, ltNB_f, leNB_t, leNB_f, eqNB_t, eqNB_f, noT, noF, Bool.and_eq_true, Bool.or_eq_true, Bool.and_eq_false_iff, Bool.or_eq_false_iff]
      exact ⟨decide_eq_false fun e => h (by rw [e])⟩
    · cbv
      simp only [implies_true, and_true, true_and, IX.v_lit, IX.v_nat, IX.v_sy, BX.v_lit, BX.v_sy, NX.v_lit, NX.v_sy, addN, in_true, eq_self, Nat.succ_eq_add_one, intD_eq, encInt_le, encText_le, encSpan_le, encPair_le, encBox_le, encNote_le, encSight_le, cell_i_le, Nat.add_zero, Int.toNat_natCast, Nat.lt_irrefl, if_false, and_self, ncast, imp_self, in_self, in_self2, in_and, Int.cast_ofNat_Int, in_and2, ltB_t, ltB_f, leB_t, leB_f, eqB_t, eqB_f, ltNB_t, ltNB_f, leNB_t, leNB_f, eqNB_t, eqNB_f, noT, noF, Bool.and_eq_true, Bool.or_eq_true, Bool.and_eq_false_iff, Bool.or_eq_false_iff]
      refine ⟨{i : Nat // i ≤ xs.length ∧ ∀ j, j < i → xs.getD j 0 = ys.getD j 0}, fun i => ⟨[(0, .lit true, .one (.ref 0)), (1, .lit true, .one (.ref 1)), (5, .lit true, cint .i64 (.nat (fun _ => i.1) 0))], [(0, intRow .ro xs), (1, intRow .ro ys)], 2⟩, fun i => xs.length - i.1, ⟨0, by omega, fun j hj => by omega⟩, LeBy.le (pins := []) (fun i u h => by cases h) (l := [(0, .old 0), (1, .old 1)]) ?_, fun i => ?_⟩
      · cbv
        simp only [implies_true, and_true, true_and, IX.v_lit, IX.v_nat, IX.v_sy, BX.v_lit, BX.v_sy, NX.v_lit, NX.v_sy, addN, in_true, eq_self, Nat.succ_eq_add_one, intD_eq, encInt_le, encText_le, encSpan_le, encPair_le, encBox_le, encNote_le, encSight_le, cell_i_le, Nat.add_zero, Int.toNat_natCast, Nat.lt_irrefl, if_false, and_self, ncast, imp_self, in_self, in_self2, in_and, Int.cast_ofNat_Int, in_and2, ltB_t, ltB_f, leB_t, leB_f, eqB_t, eqB_f, ltNB_t, ltNB_f, leNB_t, leNB_f, eqNB_t, eqNB_f, noT, noF, Bool.and_eq_true, Bool.or_eq_true, Bool.and_eq_false_iff, Bool.or_eq_false_iff]
      · obtain ⟨i, hi, hl⟩ := i
        cbv
        simp only [implies_true, and_true, true_and, IX.v_lit, IX.v_nat, IX.v_sy, BX.v_lit, BX.v_sy, NX.v_lit, NX.v_sy, addN, in_true, eq_self, Nat.succ_eq_add_one, intD_eq, encInt_le, encText_le, encSpan_le, encPair_le, encBox_le, encNote_le, encSight_le, cell_i_le, Nat.add_zero, Int.toNat_natCast, Nat.lt_irrefl, if_false, and_self, ncast, imp_self, in_self, in_self2, in_and, Int.cast_ofNat_Int, in_and2, ltB_t, ltB_f, leB_t, leB_f, eqB_t, eqB_f, ltNB_t, ltNB_f, leNB_t, leNB_f, eqNB_t, eqNB_f, noT, noF, Bool.and_eq_true, Bool.or_eq_true, Bool.and_eq_false_iff, Bool.or_eq_false_iff]
        refine ⟨fun hlt => ?_, fun hlt => ?_⟩
        · cbv
          simp only [implies_true, and_true, true_and, IX.v_lit, IX.v_nat, IX.v_sy, BX.v_lit, BX.v_sy, NX.v_lit, NX.v_sy, addN, in_true, eq_self, Nat.succ_eq_add_one, intD_eq, encInt_le, encText_le, encSpan_le, encPair_le, encBox_le, encNote_le, encSight_le, cell_i_le, Nat.add_zero, Int.toNat_natCast, Nat.lt_irrefl, if_false, and_self, ncast, imp_self, in_self, in_self2, in_and, Int.cast_ofNat_Int, in_and2, ltB_t, ltB_f, leB_t, leB_f, eqB_t, eqB_f, ltNB_t, ltNB_f, leNB_t, leNB_f, eqNB_t, eqNB_f, noT, noF, Bool.and_eq_true, Bool.or_eq_true, Bool.and_eq_false_iff, Bool.or_eq_false_iff]
          refine ⟨⟨hlt⟩, ⟨hlt⟩, ⟨by omega⟩, ⟨by omega⟩, fun hne => ?_, fun heq => ?_⟩
          · cbv
            simp only [implies_true, and_true, true_and, IX.v_lit, IX.v_nat, IX.v_sy, BX.v_lit, BX.v_sy, NX.v_lit, NX.v_sy, addN, in_true, eq_self, Nat.succ_eq_add_one, intD_eq, encInt_le, encText_le, encSpan_le, encPair_le, encBox_le, encNote_le, encSight_le, cell_i_le, Nat.add_zero, Int.toNat_natCast, Nat.lt_irrefl, if_false, and_self, ncast, imp_self, in_self, in_self2, in_and, Int.cast_ofNat_Int, in_and2, ltB_t, ltB_f, leB_t, leB_f, eqB_t, eqB_f, ltNB_t, ltNB_f, leNB_t, leNB_f, eqNB_t, eqNB_f, noT, noF, Bool.and_eq_true, Bool.or_eq_true, Bool.and_eq_false_iff, Bool.or_eq_false_iff]
            exact ⟨decide_eq_false fun e => hne (by rw [e])⟩
          · cbv
            simp only [implies_true, and_true, true_and, IX.v_lit, IX.v_nat, IX.v_sy, BX.v_lit, BX.v_sy, NX.v_lit, NX.v_sy, addN, in_true, eq_self, Nat.succ_eq_add_one, intD_eq, encInt_le, encText_le, encSpan_le, encPair_le, encBox_le, encNote_le, encSight_le, cell_i_le, Nat.add_zero, Int.toNat_natCast, Nat.lt_irrefl, if_false, and_self, ncast, imp_self, in_self, in_self2, in_and, Int.cast_ofNat_Int, in_and2, ltB_t, ltB_f, leB_t, leB_f, eqB_t, eqB_f, ltNB_t, ltNB_f, leNB_t, leNB_f, eqNB_t, eqNB_f, noT, noF, Bool.and_eq_true, Bool.or_eq_true, Bool.and_eq_false_iff, Bool.or_eq_false_iff]
            refine ⟨⟨nat_fits hlt hsz⟩, ⟨i + 1, by omega, fun j hj => ?_⟩, LeBy.le (pins := []) (fun i u h => by cases h) (l := [(0, .old 0), (1, .old 1)]) ?_, by show xs.length - (i + 1) < xs.length - i; omega⟩
            · rcases Nat.lt_or_ge j i with h1 | h1
              · exact hl j h1
              · rw [show j = i by omega]
                simpa using heq
            · cbv
              simp only [implies_true, and_true, true_and, IX.v_lit, IX.v_nat, IX.v_sy, BX.v_lit, BX.v_sy, NX.v_lit, NX.v_sy, addN, in_true, eq_self, Nat.succ_eq_add_one, intD_eq, encInt_le, encText_le, encSpan_le, encPair_le, encBox_le, encNote_le, encSight_le, cell_i_le, Nat.add_zero, Int.toNat_natCast, Nat.lt_irrefl, if_false, and_self, ncast, imp_self, in_self, in_self2, in_and, Int.cast_ofNat_Int, in_and2, ltB_t, ltB_f, leB_t, leB_f, eqB_t, eqB_f, ltNB_t, ltNB_f, leNB_t, leNB_f, eqNB_t, eqNB_f, noT, noF, Bool.and_eq_true, Bool.or_eq_true, Bool.and_eq_false_iff, Bool.or_eq_false_iff]
        · cbv
          simp only [implies_true, and_true, true_and, IX.v_lit, IX.v_nat, IX.v_sy, BX.v_lit, BX.v_sy, NX.v_lit, NX.v_sy, addN, in_true, eq_self, Nat.succ_eq_add_one, intD_eq, encInt_le, encText_le, encSpan_le, encPair_le, encBox_le, encNote_le, encSight_le, cell_i_le, Nat.add_zero, Int.toNat_natCast, Nat.lt_irrefl, if_false, and_self, ncast, imp_self, in_self, in_self2, in_and, Int.cast_ofNat_Int, in_and2, ltB_t, ltB_f, leB_t, leB_f, eqB_t, eqB_f, ltNB_t, ltNB_f, leNB_t, leNB_f, eqNB_t, eqNB_f, noT, noF, Bool.and_eq_true, Bool.or_eq_true, Bool.and_eq_false_iff, Bool.or_eq_false_iff]
          exact ⟨decide_eq_true (same_of (by (first | omega | (simp only [ncast] at *; omega))) fun j hj => hl j (by omega))⟩
  · exact hs.elim
end Go.Proofs.YthgllnnlngihoaaGreat.Sx
end
section
set_option linter.unusedVariables false
set_option linter.unusedSimpArgs false
set_option maxRecDepth 100000
namespace Go.Proofs.YthgllnnlngihoaaGreat.Sx
open Go.RowKit

def fewTo (ss : List SightD) (i : Nat) : Bool := (List.range i).all fun j => decide ((ss.getD j sightD).ls.size ≤ 20)
def fewB (ss : List SightD) (ns : List NoteD) : Bool := (decide (9 < ss.length) || decide (20 < ns.length)) || (fewTo ss ss.length && decide (ss.length ≤ 6))
/-- A life's lists are data, and short enough to be counted. -/
def okLife (M : Mem) (c d : CV) : Prop := okSights M c ∧ okNotes M d ∧ (sights M c).length ≤ 140737488355328 ∧ (notes M d).length ≤ 140737488355328
def spFew : Spec := fun args M _ => match args with
  | [.agg [.i .i64 st, .i .i64 pl, .i .i64 sk, c, d]] => ⟨In fun _ => okLife M c d, cbool (.sy fun _ => fewB (sights M c) (notes M d)), [], [], (seen M c).reads ++ (seen M d).reads⟩
  | _ => bad
theorem congrFew : spFew.Congr := by
  intro args M M' base hs h
  unfold spFew at *
  split at hs
  · simp only [okLife, okSights, okNotes, sights, notes] at h ⊢
    rw [seen_congr (M := M) (M' := M') (fun i hi => h i (List.mem_append_left _ hi)), seen_congr (M := M) (M' := M') (fun i hi => h i (List.mem_append_right _ hi))]
  · exact hs.elim
theorem okFew : SpecOk F0 Tryz.prog 15 spFew := by
  refine spec_val (e := en []) (en_ok trivial) rfl (fn := Tryz.f15) (c := fbody Tryz.f15) (by kernel_rfl) rfl rfl (by kernel_rfl) congrFew fun args M base hs => ?_
  unfold spFew at hs ⊢
  split at hs
  · rename_i st pl sk c d
    refine ⟨[.agg [.i .i64 (.sy fun _ => st.val), .i .i64 (.sy fun _ => pl.val), .i .i64 (.sy fun _ => sk.val), .ref 0, .ref 1]], [sightRow .ro (sights M c), noteRow .ro (notes M d)], Nat.le_of_ble_eq_true rfl, ⟨rfl, trivial⟩, .val rfl (.val rfl (.val rfl (.row (sight_from hs.ok.1) (.row (note_from hs.ok.2.1) .nil)))), rfl, rfl, rfl, fun B => ?_⟩
    have hsz : (sights M c).length ≤ 140737488355328 := hs.ok.2.2.1
    clear hs
    show vc _ _ _ _ fun x st => _ ∧ _ ∧ IvLe _ _ (cbool (.sy fun _ => fewB (sights M c) (notes M d)))
    revert hsz
    generalize sights M c = ss
    generalize notes M d = ns
    intro hsz
    cbv
    simp only [implies_true, and_true, true_and, IX.v_lit, IX.v_nat, IX.v_sy, BX.v_lit, BX.v_sy, NX.v_lit, NX.v_sy, addN, in_true, eq_self, Nat.succ_eq_add_one, intD_eq, encInt_le, encText_le, encSpan_le, encPair_le, encBox_le, encNote_le, encSight_le, cell_i_le, Nat.add_zero, Int.toNat_natCast, Nat.lt_irrefl, if_false, and_self, ncast, imp_self, in_self, in_self2, in_and, Int.cast_ofNat_Int, in_and2, ltB_t, ltB_f, leB_t, leB_f, eqB_t, eqB_f, ltNB_t, ltNB_f, leNB_t, leNB_f, eqNB_t, eqNB_f, noT, noF, Bool.and_eq_true, Bool.or_eq_true, Bool.and_eq_false_iff, Bool.or_eq_false_iff]
    refine ⟨fun h => ?_, fun h => ?_⟩
    · cbv
      simp only [implies_true, and_true, true_and, IX.v_lit, IX.v_nat, IX.v_sy, BX.v_lit, BX.v_sy, NX.v_lit, NX.v_sy, addN, in_true, eq_self, Nat.succ_eq_add_one, intD_eq, encInt_le, encText_le, encSpan_le, encPair_le, encBox_le, encNote_le, encSight_le, cell_i_le, Nat.add_zero, Int.toNat_natCast, Nat.lt_irrefl, if_false, and_self, ncast, imp_self, in_self, in_self2, in_and, Int.cast_ofNat_Int, in_and2, ltB_t, ltB_f, leB_t, leB_f, eqB_t, eqB_f, ltNB_t, ltNB_f, leNB_t, leNB_f, eqNB_t, eqNB_f, noT, noF, Bool.and_eq_true, Bool.or_eq_true, Bool.and_eq_false_iff, Bool.or_eq_false_iff]
      refine ⟨?_⟩
      have h' : (decide (9 < ss.length) || decide (20 < ns.length)) = true := by
        simp only [Bool.or_eq_true, decide_eq_true_eq]
        (first | omega | (simp only [ncast] at *; omega))
      unfold fewB
      rw [h']
      rfl
    · have h' : (decide (9 < ss.length) || decide (20 < ns.length)) = false := by
        simp only [Bool.or_eq_false_iff, decide_eq_false_iff_not]
        (first | omega | (simp only [ncast] at *; omega))
      cbv
      simp only [implies_true, and_true, true_and, IX.v_lit, IX.v_nat, IX.v_sy, BX.v_lit, BX.v_sy, NX.v_lit, NX.v_sy, addN, in_true, eq_self, Nat.succ_eq_add_one, intD_eq, encInt_le, encText_le, encSpan_le, encPair_le, encBox_le, encNote_le, encSight_le, cell_i_le, Nat.add_zero, Int.toNat_natCast, Nat.lt_irrefl, if_false, and_self, ncast, imp_self, in_self, in_self2, in_and, Int.cast_ofNat_Int, in_and2, ltB_t, ltB_f, leB_t, leB_f, eqB_t, eqB_f, ltNB_t, ltNB_f, leNB_t, leNB_f, eqNB_t, eqNB_f, noT, noF, Bool.and_eq_true, Bool.or_eq_true, Bool.and_eq_false_iff, Bool.or_eq_false_iff]
      refine ⟨{i : Nat // i ≤ ss.length ∧ fewTo ss i = true}, fun i => ⟨[(1, .lit true, .one (.ref 2)), (3, .lit true, cint .i64 (.nat (fun _ => i.1) 0))], [(0, sightRow .ro ss), (1, noteRow .ro ns), (2, .box true 27 [.i .i64 (.sy fun _ => st.val), .i .i64 (.sy fun _ => pl.val), .i .i64 (.sy fun _ => sk.val), .ref 0, .ref 1])], 3⟩, fun i => ss.length - i.1, ⟨0, by omega, rfl⟩, LeBy.le (pins := []) (fun i u h => by cases h) (l := [(0, .old 0), (1, .old 1), (2, .old 2)]) ?_, fun i => ?_⟩
      · cbv
        simp only [implies_true, and_true, true_and, IX.v_lit, IX.v_nat, IX.v_sy, BX.v_lit, BX.v_sy, NX.v_lit, NX.v_sy, addN, in_true, eq_self, Nat.succ_eq_add_one, intD_eq, encInt_le, encText_le, encSpan_le, encPair_le, encBox_le, encNote_le, encSight_le, cell_i_le, Nat.add_zero, Int.toNat_natCast, Nat.lt_irrefl, if_false, and_self, ncast, imp_self, in_self, in_self2, in_and, Int.cast_ofNat_Int, in_and2, ltB_t, ltB_f, leB_t, leB_f, eqB_t, eqB_f, ltNB_t, ltNB_f, leNB_t, leNB_f, eqNB_t, eqNB_f, noT, noF, Bool.and_eq_true, Bool.or_eq_true, Bool.and_eq_false_iff, Bool.or_eq_false_iff]
      · obtain ⟨i, hi, hl⟩ := i
        cbv
        simp only [implies_true, and_true, true_and, IX.v_lit, IX.v_nat, IX.v_sy, BX.v_lit, BX.v_sy, NX.v_lit, NX.v_sy, addN, in_true, eq_self, Nat.succ_eq_add_one, intD_eq, encInt_le, encText_le, encSpan_le, encPair_le, encBox_le, encNote_le, encSight_le, cell_i_le, Nat.add_zero, Int.toNat_natCast, Nat.lt_irrefl, if_false, and_self, ncast, imp_self, in_self, in_self2, in_and, Int.cast_ofNat_Int, in_and2, ltB_t, ltB_f, leB_t, leB_f, eqB_t, eqB_f, ltNB_t, ltNB_f, leNB_t, leNB_f, eqNB_t, eqNB_f, noT, noF, Bool.and_eq_true, Bool.or_eq_true, Bool.and_eq_false_iff, Bool.or_eq_false_iff]
        refine ⟨fun hlt => ?_, fun hlt => ?_⟩
        · cbv
          simp only [implies_true, and_true, true_and, IX.v_lit, IX.v_nat, IX.v_sy, BX.v_lit, BX.v_sy, NX.v_lit, NX.v_sy, addN, in_true, eq_self, Nat.succ_eq_add_one, intD_eq, encInt_le, encText_le, encSpan_le, encPair_le, encBox_le, encNote_le, encSight_le, cell_i_le, Nat.add_zero, Int.toNat_natCast, Nat.lt_irrefl, if_false, and_self, ncast, imp_self, in_self, in_self2, in_and, Int.cast_ofNat_Int, in_and2, ltB_t, ltB_f, leB_t, leB_f, eqB_t, eqB_f, ltNB_t, ltNB_f, leNB_t, leNB_f, eqNB_t, eqNB_f, noT, noF, Bool.and_eq_true, Bool.or_eq_true, Bool.and_eq_false_iff, Bool.or_eq_false_iff]
          refine ⟨⟨hlt⟩, ⟨hlt⟩, fun hbad => ?_, fun hgood => ?_⟩
          · cbv
            simp only [implies_true, and_true, true_and, IX.v_lit, IX.v_nat, IX.v_sy, BX.v_lit, BX.v_sy, NX.v_lit, NX.v_sy, addN, in_true, eq_self, Nat.succ_eq_add_one, intD_eq, encInt_le, encText_le, encSpan_le, encPair_le, encBox_le, encNote_le, encSight_le, cell_i_le, Nat.add_zero, Int.toNat_natCast, Nat.lt_irrefl, if_false, and_self, ncast, imp_self, in_self, in_self2, in_and, Int.cast_ofNat_Int, in_and2, ltB_t, ltB_f, leB_t, leB_f, eqB_t, eqB_f, ltNB_t, ltNB_f, leNB_t, leNB_f, eqNB_t, eqNB_f, noT, noF, Bool.and_eq_true, Bool.or_eq_true, Bool.and_eq_false_iff, Bool.or_eq_false_iff]
            refine ⟨?_⟩
            unfold fewB
            rw [h', Bool.false_or]
            have : fewTo ss ss.length = false := List.all_eq_false.2 ⟨i, List.mem_range.2 hlt, by
              simp only [decide_eq_true_eq]
              (first | omega | (simp only [ncast] at *; omega))⟩
            rw [this, Bool.false_and]
          · have hg : (ss.getD i sightD).ls.size ≤ 20 := by (first | omega | (simp only [ncast] at *; omega))
            cbv
            simp only [implies_true, and_true, true_and, IX.v_lit, IX.v_nat, IX.v_sy, BX.v_lit, BX.v_sy, NX.v_lit, NX.v_sy, addN, in_true, eq_self, Nat.succ_eq_add_one, intD_eq, encInt_le, encText_le, encSpan_le, encPair_le, encBox_le, encNote_le, encSight_le, cell_i_le, Nat.add_zero, Int.toNat_natCast, Nat.lt_irrefl, if_false, and_self, ncast, imp_self, in_self, in_self2, in_and, Int.cast_ofNat_Int, in_and2, ltB_t, ltB_f, leB_t, leB_f, eqB_t, eqB_f, ltNB_t, ltNB_f, leNB_t, leNB_f, eqNB_t, eqNB_f, noT, noF, Bool.and_eq_true, Bool.or_eq_true, Bool.and_eq_false_iff, Bool.or_eq_false_iff]
            refine ⟨⟨nat_fits hlt hsz⟩, ⟨i + 1, by omega, ?_⟩, LeBy.le (pins := []) (fun i u h => by cases h) (l := [(0, .old 0), (1, .old 1), (2, .old 2)]) ?_, by show ss.length - (i + 1) < ss.length - i; omega⟩
            · unfold fewTo at hl ⊢
              rw [List.range_succ, List.all_append, hl]
              simp only [List.all_cons, List.all_nil, Bool.and_true, Bool.true_and]
              exact decide_eq_true hg
            · cbv
              simp only [implies_true, and_true, true_and, IX.v_lit, IX.v_nat, IX.v_sy, BX.v_lit, BX.v_sy, NX.v_lit, NX.v_sy, addN, in_true, eq_self, Nat.succ_eq_add_one, intD_eq, encInt_le, encText_le, encSpan_le, encPair_le, encBox_le, encNote_le, encSight_le, cell_i_le, Nat.add_zero, Int.toNat_natCast, Nat.lt_irrefl, if_false, and_self, ncast, imp_self, in_self, in_self2, in_and, Int.cast_ofNat_Int, in_and2, ltB_t, ltB_f, leB_t, leB_f, eqB_t, eqB_f, ltNB_t, ltNB_f, leNB_t, leNB_f, eqNB_t, eqNB_f, noT, noF, Bool.and_eq_true, Bool.or_eq_true, Bool.and_eq_false_iff, Bool.or_eq_false_iff]
        · cbv
          simp only [implies_true, and_true, true_and, IX.v_lit, IX.v_nat, IX.v_sy, BX.v_lit, BX.v_sy, NX.v_lit, NX.v_sy, addN, in_true, eq_self, Nat.succ_eq_add_one, intD_eq, encInt_le, encText_le, encSpan_le, encPair_le, encBox_le, encNote_le, encSight_le, cell_i_le, Nat.add_zero, Int.toNat_natCast, Nat.lt_irrefl, if_false, and_self, ncast, imp_self, in_self, in_self2, in_and, Int.cast_ofNat_Int, in_and2, ltB_t, ltB_f, leB_t, leB_f, eqB_t, eqB_f, ltNB_t, ltNB_f, leNB_t, leNB_f, eqNB_t, eqNB_f, noT, noF, Bool.and_eq_true, Bool.or_eq_true, Bool.and_eq_false_iff, Bool.or_eq_false_iff]
          refine ⟨?_⟩
          unfold fewB
          rw [h', Bool.false_or, show ss.length = i by omega, hl, Bool.true_and]
          unfold leB
          exact decide_eq_decide.2 (by (first | omega | (simp only [ncast] at *; omega)))
  · exact hs.elim
end Go.Proofs.YthgllnnlngihoaaGreat.Sx
end
section
set_option linter.unusedVariables false
set_option linter.unusedSimpArgs false
set_option maxRecDepth 100000
namespace Go.Proofs.YthgllnnlngihoaaGreat.Sx
open Go.RowKit

def yearAt (ss : List SightD) (k : Nat) : Int := (ss.getD k sightD).year
def badAt (ss : List SightD) (kind frm til : Int) (cs : List Int) (k : Nat) : Bool := decide (kind = 0) && decide (frm ≤ yearAt ss k) && decide (yearAt ss (k + 1) ≤ til) && !(decide (cs.getD k 0 = 0))
def someAt (ss : List SightD) (kind frm til : Int) (cs : List Int) (k : Nat) : Bool := decide (yearAt ss k ≤ til) && decide (frm ≤ yearAt ss (k + 1)) && decide (cs.getD k 0 = kind)
def someTo (ss : List SightD) (kind frm til : Int) (cs : List Int) (i : Nat) : Bool := (List.range i).any (someAt ss kind frm til cs)
def notedB (ss : List SightD) (kind frm til : Int) (cs : List Int) : Bool := (List.range cs.length).all (fun k => !badAt ss kind frm til cs k) && (someTo ss kind frm til cs cs.length || decide (kind = 0))
def spNoted : Spec := fun args M _ => match args with
  | [.agg [.i .i64 st, .i .i64 pl, .i .i64 sk, c, d], .agg [.i .i64 id, .i .i64 kind, .i .i64 frm, .i .i64 til], .one e] => ⟨In fun _ => okLife M c d ∧ okInts M e ∧ (ints M e).length < (sights M c).length, cbool (.sy fun _ => notedB (sights M c) kind.val frm.val til.val (ints M e)), [], [], (seen M c).reads ++ (seen M d).reads ++ (seen M e).reads⟩
  | _ => bad
theorem congrNoted : spNoted.Congr := by
  intro args M M' base hs h
  unfold spNoted at *
  split at hs
  · simp only [okLife, okSights, okNotes, okInts, sights, notes, ints] at h ⊢
    rw [seen_congr (M := M) (M' := M') (fun i hi => h i (List.mem_append_left _ (List.mem_append_left _ hi))), seen_congr (M := M) (M' := M') (fun i hi => h i (List.mem_append_left _ (List.mem_append_right _ hi))), seen_congr (M := M) (M' := M') (fun i hi => h i (List.mem_append_right _ hi))]
  · exact hs.elim
theorem okNoted : SpecOk F0 Tryz.prog 111 spNoted := by
  refine spec_val (e := en []) (en_ok trivial) rfl (fn := Tryz.f111) (c := fbody Tryz.f111) (by kernel_rfl) rfl rfl (by kernel_rfl) congrNoted fun args M base hs => ?_
  unfold spNoted at hs ⊢
  split at hs
  · rename_i st pl sk c d id kind frm til e
    refine ⟨[.agg [.i .i64 (.sy fun _ => st.val), .i .i64 (.sy fun _ => pl.val), .i .i64 (.sy fun _ => sk.val), .ref 0, .ref 1], .agg [.i .i64 (.sy fun _ => id.val), .i .i64 (.sy fun _ => kind.val), .i .i64 (.sy fun _ => frm.val), .i .i64 (.sy fun _ => til.val)], .one (.ref 2)], [sightRow .ro (sights M c), noteRow .ro (notes M d), intRow .ro (ints M e)], Nat.le_of_ble_eq_true rfl, ⟨rfl, rfl, trivial⟩,
      .val rfl (.val rfl (.val rfl (.row (sight_from hs.ok.1.1) (.row (note_from hs.ok.1.2.1) (.val rfl (.val rfl (.val rfl (.val rfl (.row (int_from hs.ok.2.1) .nil))))))))), rfl, rfl, rfl, fun B => ?_⟩
    have hsz : (sights M c).length ≤ 140737488355328 := hs.ok.1.2.2.1
    have hlt0 : (ints M e).length < (sights M c).length := hs.ok.2.2
    clear hs
    show vc _ _ _ _ fun x st => _ ∧ _ ∧ IvLe _ _ (cbool (.sy fun _ => notedB (sights M c) kind.val frm.val til.val (ints M e)))
    revert hsz hlt0
    generalize sights M c = ss
    generalize notes M d = ns
    generalize ints M e = cs
    intro hsz hlt0
    cbv
    simp only [implies_true, and_true, true_and, IX.v_lit, IX.v_nat, IX.v_sy, BX.v_lit, BX.v_sy, NX.v_lit, NX.v_sy, addN, in_true, eq_self, Nat.succ_eq_add_one, intD_eq, encInt_le, encText_le, encSpan_le, encPair_le, encBox_le, encNote_le, encSight_le, cell_i_le, Nat.add_zero, Int.toNat_natCast, Nat.lt_irrefl, if_false, and_self, ncast, imp_self, in_self, in_self2, in_and, Int.cast_ofNat_Int, in_and2, ltB_t, ltB_f, leB_t, leB_f, eqB_t, eqB_f, ltNB_t, ltNB_f, leNB_t, leNB_f, eqNB_t, eqNB_f, noT, noF, Bool.and_eq_true, Bool.or_eq_true, Bool.and_eq_false_iff, Bool.or_eq_false_iff]
    refine ⟨{i : Nat // i ≤ cs.length ∧ ∀ j, j < i → badAt ss kind.val frm.val til.val cs j = false}, fun i => ⟨[(3, .lit true, .one (.ref 3)), (4, .lit true, .one (.ref 4)), (7, .lit true, cbool (.sy fun _ => someTo ss kind.val frm.val til.val cs i.1)), (12, .lit true, .one (.ref 2)), (13, .lit true, cint .i64 (.nat (fun _ => cs.length) 0)), (14, .lit true, cint .i64 (.nat (fun _ => i.1) 0))], [(0, sightRow .ro ss), (1, noteRow .ro ns), (2, intRow .ro cs), (3, .box true 27 [.i .i64 (.sy fun _ => st.val), .i .i64 (.sy fun _ => pl.val), .i .i64 (.sy fun _ => sk.val), .ref 0, .ref 1]), (4, .box true 121 [.i .i64 (.sy fun _ => id.val), .i .i64 (.sy fun _ => kind.val), .i .i64 (.sy fun _ => frm.val), .i .i64 (.sy fun _ => til.val)])], 5⟩, fun i => cs.length - i.1, ⟨0, by omega, fun j hj => by omega⟩, LeBy.le (pins := []) (fun i u h => by cases h) (l := [(0, .old 0), (1, .old 1), (2, .old 2), (3, .old 3), (4, .old 4)]) ?_, fun i => ?_⟩
    · cbv
      simp only [implies_true, and_true, true_and, IX.v_lit, IX.v_nat, IX.v_sy, BX.v_lit, BX.v_sy, NX.v_lit, NX.v_sy, addN, in_true, eq_self, Nat.succ_eq_add_one, intD_eq, encInt_le, encText_le, encSpan_le, encPair_le, encBox_le, encNote_le, encSight_le, cell_i_le, Nat.add_zero, Int.toNat_natCast, Nat.lt_irrefl, if_false, and_self, ncast, imp_self, in_self, in_self2, in_and, Int.cast_ofNat_Int, in_and2, ltB_t, ltB_f, leB_t, leB_f, eqB_t, eqB_f, ltNB_t, ltNB_f, leNB_t, leNB_f, eqNB_t, eqNB_f, noT, noF, Bool.and_eq_true, Bool.or_eq_true, Bool.and_eq_false_iff, Bool.or_eq_false_iff]
      exact ⟨rfl⟩
    · obtain ⟨i, hi, hl⟩ := i
      cbv
      simp only [implies_true, and_true, true_and, IX.v_lit, IX.v_nat, IX.v_sy, BX.v_lit, BX.v_sy, NX.v_lit, NX.v_sy, addN, in_true, eq_self, Nat.succ_eq_add_one, intD_eq, encInt_le, encText_le, encSpan_le, encPair_le, encBox_le, encNote_le, encSight_le, cell_i_le, Nat.add_zero, Int.toNat_natCast, Nat.lt_irrefl, if_false, and_self, ncast, imp_self, in_self, in_self2, in_and, Int.cast_ofNat_Int, in_and2, ltB_t, ltB_f, leB_t, leB_f, eqB_t, eqB_f, ltNB_t, ltNB_f, leNB_t, leNB_f, eqNB_t, eqNB_f, noT, noF, Bool.and_eq_true, Bool.or_eq_true, Bool.and_eq_false_iff, Bool.or_eq_false_iff]
      refine ⟨fun hlt => ?_, fun hlt => ?_⟩
      · cbv
        simp only [implies_true, and_true, true_and, IX.v_lit, IX.v_nat, IX.v_sy, BX.v_lit, BX.v_sy, NX.v_lit, NX.v_sy, addN, in_true, eq_self, Nat.succ_eq_add_one, intD_eq, encInt_le, encText_le, encSpan_le, encPair_le, encBox_le, encNote_le, encSight_le, cell_i_le, Nat.add_zero, Int.toNat_natCast, Nat.lt_irrefl, if_false, and_self, ncast, imp_self, in_self, in_self2, in_and, Int.cast_ofNat_Int, in_and2, ltB_t, ltB_f, leB_t, leB_f, eqB_t, eqB_f, ltNB_t, ltNB_f, leNB_t, leNB_f, eqNB_t, eqNB_f, noT, noF, Bool.and_eq_true, Bool.or_eq_true, Bool.and_eq_false_iff, Bool.or_eq_false_iff]
        refine ⟨⟨hlt⟩, ⟨hlt⟩, ⟨by omega⟩, ⟨by omega⟩, ⟨nat_fits (n := ss.length) (by omega) hsz⟩, ⟨by omega⟩, ⟨by omega⟩, fun hbad => ?_, fun hgood => ?_⟩
        · cbv
          simp only [implies_true, and_true, true_and, IX.v_lit, IX.v_nat, IX.v_sy, BX.v_lit, BX.v_sy, NX.v_lit, NX.v_sy, addN, in_true, eq_self, Nat.succ_eq_add_one, intD_eq, encInt_le, encText_le, encSpan_le, encPair_le, encBox_le, encNote_le, encSight_le, cell_i_le, Nat.add_zero, Int.toNat_natCast, Nat.lt_irrefl, if_false, and_self, ncast, imp_self, in_self, in_self2, in_and, Int.cast_ofNat_Int, in_and2, ltB_t, ltB_f, leB_t, leB_f, eqB_t, eqB_f, ltNB_t, ltNB_f, leNB_t, leNB_f, eqNB_t, eqNB_f, noT, noF, Bool.and_eq_true, Bool.or_eq_true, Bool.and_eq_false_iff, Bool.or_eq_false_iff]
          refine ⟨?_⟩
          have hb : badAt ss kind.val frm.val til.val cs i = true := by
            unfold badAt yearAt
            simpa [and_assoc] using hbad
          unfold notedB
          have : (List.range cs.length).all (fun k => !badAt ss kind.val frm.val til.val cs k) = false := List.all_eq_false.2 ⟨i, List.mem_range.2 hlt, by rw [hb]; simp⟩
          rw [this, Bool.false_and]
        · have hb : badAt ss kind.val frm.val til.val cs i = false := by
            unfold badAt yearAt
            simp only [Bool.and_eq_false_iff, decide_eq_false_iff_not, Bool.not_eq_false', decide_eq_true_eq]
            (first | omega | (simp only [ncast] at *; omega))
          cbv
          simp only [implies_true, and_true, true_and, IX.v_lit, IX.v_nat, IX.v_sy, BX.v_lit, BX.v_sy, NX.v_lit, NX.v_sy, addN, in_true, eq_self, Nat.succ_eq_add_one, intD_eq, encInt_le, encText_le, encSpan_le, encPair_le, encBox_le, encNote_le, encSight_le, cell_i_le, Nat.add_zero, Int.toNat_natCast, Nat.lt_irrefl, if_false, and_self, ncast, imp_self, in_self, in_self2, in_and, Int.cast_ofNat_Int, in_and2, ltB_t, ltB_f, leB_t, leB_f, eqB_t, eqB_f, ltNB_t, ltNB_f, leNB_t, leNB_f, eqNB_t, eqNB_f, noT, noF, Bool.and_eq_true, Bool.or_eq_true, Bool.and_eq_false_iff, Bool.or_eq_false_iff]
          refine ⟨⟨nat_fits (n := ss.length) (by omega) hsz⟩, ⟨i + 1, by omega, fun j hj => ?_⟩, LeBy.le (pins := []) (fun i u h => by cases h) (l := [(0, .old 0), (1, .old 1), (2, .old 2), (3, .old 3), (4, .old 4)]) ?_, by show cs.length - (i + 1) < cs.length - i; omega⟩
          · rcases Nat.lt_or_ge j i with h1 | h1
            · exact hl j h1
            · rw [show j = i by omega]
              exact hb
          · cbv
            simp only [implies_true, and_true, true_and, IX.v_lit, IX.v_nat, IX.v_sy, BX.v_lit, BX.v_sy, NX.v_lit, NX.v_sy, addN, in_true, eq_self, Nat.succ_eq_add_one, intD_eq, encInt_le, encText_le, encSpan_le, encPair_le, encBox_le, encNote_le, encSight_le, cell_i_le, Nat.add_zero, Int.toNat_natCast, Nat.lt_irrefl, if_false, and_self, ncast, imp_self, in_self, in_self2, in_and, Int.cast_ofNat_Int, in_and2, ltB_t, ltB_f, leB_t, leB_f, eqB_t, eqB_f, ltNB_t, ltNB_f, leNB_t, leNB_f, eqNB_t, eqNB_f, noT, noF, Bool.and_eq_true, Bool.or_eq_true, Bool.and_eq_false_iff, Bool.or_eq_false_iff]
            refine ⟨?_⟩
            unfold someTo
            rw [List.range_succ, List.any_append]
            simp only [List.any_cons, List.any_nil, Bool.or_false]
            rfl
      · cbv
        simp only [implies_true, and_true, true_and, IX.v_lit, IX.v_nat, IX.v_sy, BX.v_lit, BX.v_sy, NX.v_lit, NX.v_sy, addN, in_true, eq_self, Nat.succ_eq_add_one, intD_eq, encInt_le, encText_le, encSpan_le, encPair_le, encBox_le, encNote_le, encSight_le, cell_i_le, Nat.add_zero, Int.toNat_natCast, Nat.lt_irrefl, if_false, and_self, ncast, imp_self, in_self, in_self2, in_and, Int.cast_ofNat_Int, in_and2, ltB_t, ltB_f, leB_t, leB_f, eqB_t, eqB_f, ltNB_t, ltNB_f, leNB_t, leNB_f, eqNB_t, eqNB_f, noT, noF, Bool.and_eq_true, Bool.or_eq_true, Bool.and_eq_false_iff, Bool.or_eq_false_iff]
        refine ⟨?_⟩
        unfold notedB
        rw [show cs.length = i by omega]
        have : (List.range i).all (fun k => !badAt ss kind.val frm.val til.val cs k) = true := List.all_eq_true.2 fun j hj => by rw [hl j (List.mem_range.1 hj)]; rfl
        rw [this, Bool.true_and]
        rfl
  · exact hs.elim
end Go.Proofs.YthgllnnlngihoaaGreat.Sx
end
