/- Courses. (Printed by genr2.py.). -/
import Derived.Test.YthgllnnlngihoaaGreatSz11
section
set_option linter.unusedVariables false
set_option linter.unusedSimpArgs false
set_option maxRecDepth 100000
namespace Go.Proofs.YthgllnnlngihoaaGreat.Sx
open Go.RowKit

section
variable (st pl sk : Int) (ss : List SightD) (ns : List NoteD)
def cntN : Nat → Nat → Nat
  | 0, _ => 0
  | n + 1, i => bif okN st pl sk ss ns n && decide (changesN (crs (ss.length - 1) n) = i) then cntN n i + 1 else cntN n i
def coursesL : List Int := bif decide (checkE st pl sk ss ns = 0) then (List.range ss.length).map fun k => (cntN st pl sk ss ns (3 ^ (ss.length - 1)) k : Int) else []
end
theorem cntN_le (st pl sk : Int) (ss : List SightD) (ns : List NoteD) (n i : Nat) : cntN st pl sk ss ns n i ≤ n := by
  induction n with
  | zero => simp [cntN]
  | succ n ih =>
    rw [cntN]
    cases okN st pl sk ss ns n && decide (changesN (crs (ss.length - 1) n) = i) <;> simp only [cond_true, cond_false] <;> omega
theorem changesN_le : ∀ xs : List Int, changesN xs ≤ xs.length
  | [] => Nat.le_refl _
  | x :: xs => by
    have := changesN_le xs
    simp only [changesN, List.length_cons]
    split <;> omega
noncomputable def coursesEn : En := enP [(23, spCheck)] (fun r => Nat.beq r 5) pts87
theorem courses_vc {st pl sk : Int} {ss : List SightD} {ns : List NoteD} (hsz : ss.length ≤ 140737488355328) (hnz : ns.length ≤ 140737488355328) (B : Nat) :
    vc coursesEn ⟨fun _ => none, B, fun _ => False, Tryz.f30.ntmps, some 7⟩ (fbody Tryz.f30) (start [.agg [.i .i64 (.sy fun _ => st), .i .i64 (.sy fun _ => pl), .i .i64 (.sy fun _ => sk), .ref 0, .ref 1]] [sightRow .ro ss, noteRow .ro ns])
      fun x s => isRet x ∧ markP tab Tryz.f30.results.toList 7 (fun s => ∃ js, FinBy tab Tryz.f30.results.toList js s (.tup [.one (.ref 0), .one (.i .i64 (.sy fun _ => checkE st pl sk ss ns))]) [intRowT 3 fun _ => coursesL st pl sk ss ns]) s := by
  cbv
  simp only [implies_true, and_true, true_and, IX.v_lit, IX.v_nat, IX.v_sy, BX.v_lit, BX.v_sy, NX.v_lit, NX.v_sy, addN, in_true, eq_self, Nat.succ_eq_add_one, intD_eq, encInt_le, encText_le, encSpan_le, encPair_le, encBox_le, encNote_le, encSight_le, cell_i_le, Nat.add_zero, Int.toNat_natCast, Nat.lt_irrefl, if_false, and_self, ncast, imp_self, in_self, in_self2, in_and, Int.cast_ofNat_Int, in_and2, noT, noF]
  simp only [in_true, eq_self, and_true, true_and, ints, texts, spans, pairs, boxs, notes, sights, seen, lget, reduceIte, Nat.reduceEqDiff, reduceCtorEq, Nat.succ_ne_self, Nat.zero_ne_one, Nat.one_ne_zero, int_row0, int_row, text_row, span_row, pair_row, box_row, note_row, sight_row]
  refine ⟨⟨life_at rfl rfl hsz hnz⟩, fun h => ?_, fun h => ?_⟩
  · have h : checkE st pl sk ss ns ≠ 0 := of_decide_eq_false h
    cbv
    refine ⟨[.nil], ?_⟩
    cbv
    simp only [implies_true, and_true, true_and, IX.v_lit, IX.v_nat, IX.v_sy, BX.v_lit, BX.v_sy, NX.v_lit, NX.v_sy, addN, in_true, eq_self, Nat.succ_eq_add_one, intD_eq, encInt_le, encText_le, encSpan_le, encPair_le, encBox_le, encNote_le, encSight_le, cell_i_le, Nat.add_zero, Int.toNat_natCast, Nat.lt_irrefl, if_false, and_self, ncast, imp_self, in_self, in_self2, in_and, Int.cast_ofNat_Int, in_and2, ltB_t, ltB_f, leB_t, leB_f, eqB_t, eqB_f, ltNB_t, ltNB_f, leNB_t, leNB_f, eqNB_t, eqNB_f, noT, noF, Bool.and_eq_true, Bool.or_eq_true, Bool.and_eq_false_iff, Bool.or_eq_false_iff]
    exact ⟨by unfold coursesL; rw [decide_eq_false h]; rfl⟩
  · have h : checkE st pl sk ss ns = 0 := of_decide_eq_true h
    obtain ⟨hH, hL, hn, hn9, hns⟩ := check_ok h
    have hR := runOk_of_check h
    have h38 : 3 ^ (ss.length - 1) ≤ 6561 := Nat.pow_le_pow_right (n := 3) (by decide) (show ss.length - 1 ≤ 8 by omega)
    cbv
    simp only [implies_true, and_true, true_and, IX.v_lit, IX.v_nat, IX.v_sy, BX.v_lit, BX.v_sy, NX.v_lit, NX.v_sy, addN, in_true, eq_self, Nat.succ_eq_add_one, intD_eq, encInt_le, encText_le, encSpan_le, encPair_le, encBox_le, encNote_le, encSight_le, cell_i_le, Nat.add_zero, Int.toNat_natCast, Nat.lt_irrefl, if_false, and_self, ncast, imp_self, in_self, in_self2, in_and, Int.cast_ofNat_Int, in_and2, noT, noF]
    refine ⟨⟨by omega, by omega⟩, [0, 1, 2, 3, 4, 7], fun π hπ1 hπ2 => ?_⟩
    unfold pt87 ptFn
    refine ⟨Nat.le_of_ble_eq_true rfl, ?_⟩
    cbv
    simp only [implies_true, and_true, true_and, IX.v_lit, IX.v_nat, IX.v_sy, BX.v_lit, BX.v_sy, NX.v_lit, NX.v_sy, addN, in_true, eq_self, Nat.succ_eq_add_one, intD_eq, encInt_le, encText_le, encSpan_le, encPair_le, encBox_le, encNote_le, encSight_le, cell_i_le, Nat.add_zero, Int.toNat_natCast, Nat.lt_irrefl, if_false, and_self, ncast, imp_self, in_self, in_self2, in_and, Int.cast_ofNat_Int, in_and2, noT, noF]
    refine ⟨fun i hi => by cases hi; rfl, ?_⟩
    cbv
    try simp only [implies_true, and_true, true_and, IX.v_lit, IX.v_nat, IX.v_sy, BX.v_lit, BX.v_sy, NX.v_lit, NX.v_sy, addN, in_true, eq_self, Nat.succ_eq_add_one, intD_eq, encInt_le, encText_le, encSpan_le, encPair_le, encBox_le, encNote_le, encSight_le, cell_i_le, Nat.add_zero, Int.toNat_natCast, Nat.lt_irrefl, if_false, and_self, ncast, imp_self, in_self, in_self2, in_and, Int.cast_ofNat_Int, in_and2, noT, noF]
    refine ⟨rangeFunc_tri (e := coursesEn) (enP_ok (l := [(23, spCheck)]) ⟨okCheck, trivial⟩ pts87_ok) rfl [0, 1, 2, 3, 4, 5, 6] rfl trivial fun l r π hr1 hr2 hr3 hr4 hr5 hr6 hπ3 hπ4 hπ5 hσ => ?_⟩
    refine ⟨153, _, pt153 l (ptEx fun q : Nat => ptYield (enB [(90, spCh 9 q 0)] l) l 8 r π _ 28 [18, 19] _ _), rfl, pt153_ok (ptEx_ok fun q => ptYield_ok (enB_ok (l := [(90, spCh 9 q 0)]) ⟨okCh 9 q 0, trivial⟩ l) rfl hr1 hr2 (by rw [hr3]) hr4 hr5 hr6 hπ5 (fun σ hh => hσ σ hh) (by decide) (by kernel_rfl) (by kernel_rfl) fun _ => trivial), ?_⟩
    · unfold pt153 ptFn
      refine ⟨Nat.le_of_ble_eq_true rfl, ?_⟩
      have hp : ∀ i u, π i = some u → i ∈ [0, 1, 2, 3, 4, 5, 6, 7, 8] := fun i u hu => by
        rcases hπ3 i u hu with h1 | ⟨v, h1⟩
        · have := inL_mem h1
          simp only [List.mem_cons, List.not_mem_nil, or_false] at this ⊢
          omega
        · cases h1
      clear hr4 hr5 hσ hπ3 hπ4 hπ5
      cbv
      simp only [implies_true, and_true, true_and, IX.v_lit, IX.v_nat, IX.v_sy, BX.v_lit, BX.v_sy, NX.v_lit, NX.v_sy, addN, in_true, eq_self, Nat.succ_eq_add_one, intD_eq, encInt_le, encText_le, encSpan_le, encPair_le, encBox_le, encNote_le, encSight_le, cell_i_le, Nat.add_zero, Int.toNat_natCast, Nat.lt_irrefl, if_false, and_self, ncast, imp_self, in_self, in_self2, in_and, Int.cast_ofNat_Int, in_and2, noT, noF]
      obtain ⟨C, hC⟩ : ∃ C, ss.length - 1 = C := ⟨_, rfl⟩
      obtain ⟨L, hLn⟩ : ∃ L, ss.length = L := ⟨_, rfl⟩
      refine ⟨⟨by rfl⟩, ⟨by unfold fitsK; omega⟩, ⟨⟨by omega⟩, ⟨by omega, by omega⟩⟩, {n : Nat // n < 3 ^ C}, fun i => ⟨[(0, .lit true, .one (.c (.func (.yield l) #[] #[]))), (1, .lit true, .one (.ref 5)), (3, .lit true, .one (.ref 9))], [(0, sightRow .ro ss), (1, noteRow .ro ns), (2, .box true 27 [.i .i64 (.sy fun _ => st), .i .i64 (.sy fun _ => pl), .i .i64 (.sy fun _ => sk), .ref 0, .ref 1]), (3, kindRow L (cntN st pl sk ss ns i.1)), (4, .box true 28 [.ref 3]), (5, .box true 27 [.i .i64 (.sy fun _ => st), .i .i64 (.sy fun _ => pl), .i .i64 (.sy fun _ => sk), .ref 0, .ref 1]), (6, .clo (.func 153) [] [.ref 5]), (7, .obj (.deferred (some []))), (8, .obj (.loop r)), (9, intRowT 3 fun _ => crs C i.1)], 10⟩, fun i => 3 ^ C - i.1, ⟨0, pow3_pos _⟩, LeBy.le (pins := [0, 1, 2, 3, 4, 5, 6, 7, 8]) hp (l := [(0, .old 0), (1, .old 1), (2, .old 2), (3, .old 3), (4, .old 4), (5, .old 5), (6, .old 6), (7, .old 7), (8, .old 8), (9, .old 9)]) ?_, fun i => ?_⟩
      · cbv
        simp only [implies_true, and_true, true_and, IX.v_lit, IX.v_nat, IX.v_sy, BX.v_lit, BX.v_sy, NX.v_lit, NX.v_sy, addN, in_true, eq_self, Nat.succ_eq_add_one, intD_eq, encInt_le, encText_le, encSpan_le, encPair_le, encBox_le, encNote_le, encSight_le, cell_i_le, Nat.add_zero, Int.toNat_natCast, Nat.lt_irrefl, if_false, and_self, ncast, imp_self, in_self, in_self2, in_and, Int.cast_ofNat_Int, in_and2, noT, noF]
        refine ⟨⟨⟨by omega⟩, ⟨fun e he => int1_le (x := .lit 0) rfl⟩⟩, ⟨by rw [crs_len]; omega⟩, ⟨fun e he => ?_⟩⟩
        rw [show (fun x : PUnit => (crs C 0).getD e 0) = fun _ => 0 from funext fun _ => by rw [crs_get (by omega), dig_zero]; rfl]
        exact int1_le (x := .lit 0) (y := .sy fun _ => 0) rfl
      · obtain ⟨n, hnC⟩ := i
        cbv
        simp only [implies_true, and_true, true_and, IX.v_lit, IX.v_nat, IX.v_sy, BX.v_lit, BX.v_sy, NX.v_lit, NX.v_sy, addN, in_true, eq_self, Nat.succ_eq_add_one, intD_eq, encInt_le, encText_le, encSpan_le, encPair_le, encBox_le, encNote_le, encSight_le, cell_i_le, Nat.add_zero, Int.toNat_natCast, Nat.lt_irrefl, if_false, and_self, ncast, imp_self, in_self, in_self2, in_and, Int.cast_ofNat_Int, in_and2, noT, noF]
        refine ⟨⟨tell_side rfl rfl rfl (by omega) (by rw [← hC]; exact run_thru hR n)⟩, ?_⟩
        simp only [in_true, eq_self, and_true, true_and, ints, texts, spans, pairs, boxs, notes, sights, seen, lget, reduceIte, Nat.reduceEqDiff, reduceCtorEq, Nat.succ_ne_self, Nat.zero_ne_one, Nat.one_ne_zero, int_row0, int_row, text_row, span_row, pair_row, box_row, note_row, sight_row]
        refine ⟨fun hok => ?_, fun hno => ?_⟩
        · have hok : tellOk st pl sk ss ns (crs C n) = true := hok
          have hokN : okN st pl sk ss ns n = true := by unfold okN; rw [hC]; exact hok
          refine ⟨?_, [0, 1, 2, 3, 4, 5, 6, 7, 8, 9], fun π2 hπa hπb => ?_⟩
          · cbv
            exact ⟨⟨hok⟩, ⟨hok⟩, ⟨hok⟩, trivial⟩
          · obtain ⟨m, hm⟩ : ∃ m, changesN (crs C n) = m := ⟨_, rfl⟩
            refine ⟨m, ?_⟩
            show ptYield _ _ _ _ _ _ _ _ _ _ _ _ _ _ _
            unfold ptYield
            refine ⟨hπb, rfl, rfl, ?_⟩
            have hp2 : ∀ i u, π2 i = some u → i ∈ [0, 1, 2, 3, 4, 5, 6, 7, 8, 9] := fun i u hu => by
              rcases hπa i u hu with h1 | ⟨v, h1⟩
              · exact inL_mem h1
              · have := hp i v h1
                simp only [List.mem_cons, List.not_mem_nil, or_false] at this ⊢
                omega
            have hcl := crs_len C n
            cbv
            have hch := changesN_le (crs C n)
            refine ⟨⟨⟨(ints_at (crs C n) _ _ rfl).1, by rw [(ints_at (crs C n) _ _ rfl).2]; omega⟩, by rw [(ints_at (crs C n) _ _ rfl).2]; exact hm⟩, ?_⟩
            have hc3 := cntN_le st pl sk ss ns n m
            have h38' : 3 ^ C ≤ 6561 := by rw [← hC]; exact h38
            refine ⟨⟨by omega⟩, ⟨show m + 1 ≤ L by omega⟩, ⟨show fitsK .i64 ((cntN st pl sk ss ns n m + 1 : Nat) : Int) by unfold fitsK; omega⟩, ⟨by omega⟩, ⟨show m + 1 ≤ L by omega⟩, ⟨by kernel_rfl⟩, ?_⟩
            refine ⟨fun i hi => hi.elim, fun _ => trivial, ⟨fun _ => hok, fun _ => rfl⟩, ?_⟩
            refine ⟨{k : Nat // k ≤ C ∧ ∀ j, j < k → dig n j = 2}, fun k => ⟨[(0, .lit true, .one (.c (.func (.yield l) #[] #[]))), (1, .lit true, .one (.ref 5)), (3, .lit true, .one (.ref 9)), (26, .lit true, .one (.ref 9)), (27, .lit true, cint .i64 (.nat (fun _ => C) 0)), (28, .lit true, cint .i64 (.nat (fun _ => k.1) 0))], [(0, sightRow .ro ss), (1, noteRow .ro ns), (2, .box true 27 [.i .i64 (.sy fun _ => st), .i .i64 (.sy fun _ => pl), .i .i64 (.sy fun _ => sk), .ref 0, .ref 1]), (3, kindRow L (cntN st pl sk ss ns (n + 1))), (4, .box true 28 [.ref 3]), (5, .box true 27 [.i .i64 (.sy fun _ => st), .i .i64 (.sy fun _ => pl), .i .i64 (.sy fun _ => sk), .ref 0, .ref 1]), (6, .clo (.func 153) [] [.ref 5]), (7, .obj (.deferred (some []))), (8, .obj (.loop r)), (9, kindRow C (crsK n k.1))], 10⟩, fun k => C - k.1, ⟨0, Nat.zero_le _, fun j hj => absurd hj (Nat.not_lt_zero j)⟩, LeBy.le (pins := [0, 1, 2, 3, 4, 5, 6, 7, 8]) hp (l := [(0, .old 0), (1, .old 1), (2, .old 2), (3, .old 3), (4, .old 4), (5, .old 5), (6, .old 6), (7, .old 7), (8, .old 8), (9, .old 9)]) ?_, fun k => ?_⟩
            · cbv
              simp only [implies_true, and_true, true_and, IX.v_lit, IX.v_nat, IX.v_sy, BX.v_lit, BX.v_sy, NX.v_lit, NX.v_sy, addN, in_true, eq_self, Nat.succ_eq_add_one, intD_eq, encInt_le, encText_le, encSpan_le, encPair_le, encBox_le, encNote_le, encSight_le, cell_i_le, Nat.add_zero, Int.toNat_natCast, Nat.lt_irrefl, if_false, and_self, ncast, imp_self, in_self, in_self2, in_and, Int.cast_ofNat_Int, in_and2, noT, noF]
              refine ⟨⟨⟨fun e he => put1_le (fun h1 => ?_) fun h1 => ?_⟩, ⟨(crs_len C n).symm⟩, ⟨fun e he => ?_⟩⟩, ⟨(crs_len C n).symm⟩⟩
              · subst h1
                show ((cntN st pl sk ss ns (n + 1) e : Nat) : Int) = ((cntN st pl sk ss ns n e + 1 : Nat) : Int)
                rw [cntN, hokN, hC, hm, decide_eq_true rfl]
                rfl
              · show ((cntN st pl sk ss ns (n + 1) e : Nat) : Int) = ((cntN st pl sk ss ns n e : Nat) : Int)
                rw [cntN, hokN, hC, hm, decide_eq_false fun hh => h1 hh.symm]
                rfl
              · rw [show (fun x : PUnit => (crs C n).getD e 0) = fun _ => (dig n e : Int) from funext fun _ => crs_get (by rw [crs_len] at he; exact he)]
                exact int1_le (x := .sy fun _ => (dig n e : Int)) (by unfold crsK; rw [if_neg (Nat.not_lt_zero e)]; rfl)
            · obtain ⟨k, hk, hd⟩ := k
              cbv
              simp only [implies_true, and_true, true_and, IX.v_lit, IX.v_nat, IX.v_sy, BX.v_lit, BX.v_sy, NX.v_lit, NX.v_sy, addN, in_true, eq_self, Nat.succ_eq_add_one, intD_eq, encInt_le, encText_le, encSpan_le, encPair_le, encBox_le, encNote_le, encSight_le, cell_i_le, Nat.add_zero, Int.toNat_natCast, Nat.lt_irrefl, if_false, and_self, ncast, imp_self, in_self, in_self2, in_and, Int.cast_ofNat_Int, in_and2, ltB_t, ltB_f, leB_t, leB_f, eqB_t, eqB_f, ltNB_t, ltNB_f, leNB_t, leNB_f, eqNB_t, eqNB_f, noT, noF, Bool.and_eq_true, Bool.or_eq_true, Bool.and_eq_false_iff, Bool.or_eq_false_iff]
              refine ⟨fun hlt => ?_, fun hlt => ?_⟩
              · cbv
                simp only [implies_true, and_true, true_and, IX.v_lit, IX.v_nat, IX.v_sy, BX.v_lit, BX.v_sy, NX.v_lit, NX.v_sy, addN, in_true, eq_self, Nat.succ_eq_add_one, intD_eq, encInt_le, encText_le, encSpan_le, encPair_le, encBox_le, encNote_le, encSight_le, cell_i_le, Nat.add_zero, Int.toNat_natCast, Nat.lt_irrefl, if_false, and_self, ncast, imp_self, in_self, in_self2, in_and, Int.cast_ofNat_Int, in_and2, ltB_t, ltB_f, leB_t, leB_f, eqB_t, eqB_f, ltNB_t, ltNB_f, leNB_t, leNB_f, eqNB_t, eqNB_f, noT, noF, Bool.and_eq_true, Bool.or_eq_true, Bool.and_eq_false_iff, Bool.or_eq_false_iff]
                have hck : crsK n k k = dig n k := by unfold crsK; rw [if_neg (Nat.lt_irrefl k)]
                refine ⟨⟨by omega⟩, ⟨by omega⟩, fun h2 => ?_, fun h2 => ?_⟩
                · have h2 : dig n k < 2 := by (first | omega | (simp only [ncast] at *; omega))
                  cbv
                  simp only [implies_true, and_true, true_and, IX.v_lit, IX.v_nat, IX.v_sy, BX.v_lit, BX.v_sy, NX.v_lit, NX.v_sy, addN, in_true, eq_self, Nat.succ_eq_add_one, intD_eq, encInt_le, encText_le, encSpan_le, encPair_le, encBox_le, encNote_le, encSight_le, cell_i_le, Nat.add_zero, Int.toNat_natCast, Nat.lt_irrefl, if_false, and_self, ncast, imp_self, in_self, in_self2, in_and, Int.cast_ofNat_Int, in_and2, ltB_t, ltB_f, leB_t, leB_f, eqB_t, eqB_f, ltNB_t, ltNB_f, leNB_t, leNB_f, eqNB_t, eqNB_f, noT, noF, Bool.and_eq_true, Bool.or_eq_true, Bool.and_eq_false_iff, Bool.or_eq_false_iff]
                  refine ⟨⟨by omega⟩, ⟨by omega⟩, ⟨by unfold fitsK; (first | omega | (simp only [ncast] at *; omega))⟩, ⟨by omega⟩, ⟨by omega⟩, ⟨n + 1, dig_more hlt h2 hnC⟩, LeBy.le (pins := [0, 1, 2, 3, 4, 5, 6, 7, 8]) hp (l := [(0, .old 0), (1, .old 1), (2, .old 2), (3, .old 3), (4, .old 4), (5, .old 5), (6, .old 6), (7, .old 7), (8, .old 8), (9, .old 9)]) ?_, by show 3 ^ C - (n + 1) < 3 ^ C - n; omega⟩
                  cbv
                  simp only [implies_true, and_true, true_and, IX.v_lit, IX.v_nat, IX.v_sy, BX.v_lit, BX.v_sy, NX.v_lit, NX.v_sy, addN, in_true, eq_self, Nat.succ_eq_add_one, intD_eq, encInt_le, encText_le, encSpan_le, encPair_le, encBox_le, encNote_le, encSight_le, cell_i_le, Nat.add_zero, Int.toNat_natCast, Nat.lt_irrefl, if_false, and_self, ncast, imp_self, in_self, in_self2, in_and, Int.cast_ofNat_Int, in_and2, noT, noF]
                  refine ⟨⟨crs_len C (n + 1)⟩, ⟨fun e he => ?_⟩⟩
                  rw [show (fun x : PUnit => (crs C (n + 1)).getD e 0) = fun _ => (dig (n + 1) e : Int) from funext fun _ => crs_get he]
                  refine put1_le (z := .sy fun _ => (dig (n + 1) e : Int)) (fun h3 => ?_) fun h3 => ?_
                  · subst h3
                    show ((dig (n + 1) e : Nat) : Int) = ((crsK n e e + 1 : Nat) : Int)
                    rw [hck, dig_next hd h2, if_neg (Nat.lt_irrefl e), if_pos rfl]
                  · show ((dig (n + 1) e : Nat) : Int) = ((crsK n k e : Nat) : Int)
                    rw [dig_next hd h2, if_neg h3]
                    rfl
                · have h2 : dig n k = 2 := by have := dig_lt n k; (first | omega | (simp only [ncast] at *; omega))
                  cbv
                  simp only [implies_true, and_true, true_and, IX.v_lit, IX.v_nat, IX.v_sy, BX.v_lit, BX.v_sy, NX.v_lit, NX.v_sy, addN, in_true, eq_self, Nat.succ_eq_add_one, intD_eq, encInt_le, encText_le, encSpan_le, encPair_le, encBox_le, encNote_le, encSight_le, cell_i_le, Nat.add_zero, Int.toNat_natCast, Nat.lt_irrefl, if_false, and_self, ncast, imp_self, in_self, in_self2, in_and, Int.cast_ofNat_Int, in_and2, ltB_t, ltB_f, leB_t, leB_f, eqB_t, eqB_f, ltNB_t, ltNB_f, leNB_t, leNB_f, eqNB_t, eqNB_f, noT, noF, Bool.and_eq_true, Bool.or_eq_true, Bool.and_eq_false_iff, Bool.or_eq_false_iff]
                  refine ⟨⟨by omega⟩, ⟨by omega⟩, ⟨nat_fits hlt (by omega)⟩, ⟨k + 1, by omega, fun j hj => by rcases Nat.lt_succ_iff_lt_or_eq.1 hj with h3 | h3; exact hd j h3; rw [h3]; exact h2⟩, LeBy.le (pins := [0, 1, 2, 3, 4, 5, 6, 7, 8]) hp (l := [(0, .old 0), (1, .old 1), (2, .old 2), (3, .old 3), (4, .old 4), (5, .old 5), (6, .old 6), (7, .old 7), (8, .old 8), (9, .old 9)]) ?_, by show C - (k + 1) < C - k; omega⟩
                  cbv
                  simp only [implies_true, and_true, true_and, IX.v_lit, IX.v_nat, IX.v_sy, BX.v_lit, BX.v_sy, NX.v_lit, NX.v_sy, addN, in_true, eq_self, Nat.succ_eq_add_one, intD_eq, encInt_le, encText_le, encSpan_le, encPair_le, encBox_le, encNote_le, encSight_le, cell_i_le, Nat.add_zero, Int.toNat_natCast, Nat.lt_irrefl, if_false, and_self, ncast, imp_self, in_self, in_self2, in_and, Int.cast_ofNat_Int, in_and2, noT, noF]
                  refine ⟨fun e he => put1_le (fun h3 => ?_) fun h3 => ?_⟩
                  · show ((crsK n (k + 1) e : Nat) : Int) = 0
                    unfold crsK
                    rw [if_pos (by omega)]
                    rfl
                  · show ((crsK n (k + 1) e : Nat) : Int) = ((crsK n k e : Nat) : Int)
                    unfold crsK
                    by_cases h4 : e < k
                    · rw [if_pos h4, if_pos (by omega)]
                    · rw [if_neg h4, if_neg (by omega)]
              · obtain rfl : C = k := by omega
                have hN := dig_last hd hnC
                cbv
                have e1 : coursesL st pl sk ss ns = (List.range L).map fun k => (cntN st pl sk ss ns (n + 1) k : Int) := by unfold coursesL; rw [decide_eq_true h, hC, ← hN, hLn]; rfl
                have e3 : (coursesL st pl sk ss ns).length = L := by rw [e1]; simp
                have e4 : ∀ e, e < L → (coursesL st pl sk ss ns).getD e 0 = (cntN st pl sk ss ns (n + 1) e : Int) := fun e he => by rw [e1, List.getD_eq_getElem?_getD]; simp [he]
                refine ⟨⟨[.old 3], ?_⟩, ⟨[.old 3], ?_⟩⟩
                · cbv
                  simp only [implies_true, and_true, true_and, IX.v_lit, IX.v_nat, IX.v_sy, BX.v_lit, BX.v_sy, NX.v_lit, NX.v_sy, addN, in_true, eq_self, Nat.succ_eq_add_one, intD_eq, encInt_le, encText_le, encSpan_le, encPair_le, encBox_le, encNote_le, encSight_le, cell_i_le, Nat.add_zero, Int.toNat_natCast, Nat.lt_irrefl, if_false, and_self, ncast, imp_self, in_self, in_self2, in_and, Int.cast_ofNat_Int, in_and2, ltB_t, ltB_f, leB_t, leB_f, eqB_t, eqB_f, ltNB_t, ltNB_f, leNB_t, leNB_f, eqNB_t, eqNB_f, noT, noF, Bool.and_eq_true, Bool.or_eq_true, Bool.and_eq_false_iff, Bool.or_eq_false_iff]
                  exact ⟨⟨⟨e3⟩, ⟨fun e he => int1_le (x := .nat (fun _ => cntN st pl sk ss ns (n + 1) e) 0) (y := .sy fun _ => (coursesL st pl sk ss ns).getD e 0) (e4 e he)⟩⟩, ⟨h⟩⟩
                · cbv
                  simp only [implies_true, and_true, true_and, IX.v_lit, IX.v_nat, IX.v_sy, BX.v_lit, BX.v_sy, NX.v_lit, NX.v_sy, addN, in_true, eq_self, Nat.succ_eq_add_one, intD_eq, encInt_le, encText_le, encSpan_le, encPair_le, encBox_le, encNote_le, encSight_le, cell_i_le, Nat.add_zero, Int.toNat_natCast, Nat.lt_irrefl, if_false, and_self, ncast, imp_self, in_self, in_self2, in_and, Int.cast_ofNat_Int, in_and2, ltB_t, ltB_f, leB_t, leB_f, eqB_t, eqB_f, ltNB_t, ltNB_f, leNB_t, leNB_f, eqNB_t, eqNB_f, noT, noF, Bool.and_eq_true, Bool.or_eq_true, Bool.and_eq_false_iff, Bool.or_eq_false_iff]
                  exact ⟨⟨⟨e3⟩, ⟨fun e he => int1_le (x := .nat (fun _ => cntN st pl sk ss ns (n + 1) e) 0) (y := .sy fun _ => (coursesL st pl sk ss ns).getD e 0) (e4 e he)⟩⟩, ⟨h⟩⟩
        · have hno : tellOk st pl sk ss ns (crs C n) = false := hno
          have hnoN : okN st pl sk ss ns n = false := by unfold okN; rw [hC]; exact hno
          have ho3 : ∀ e, cntN st pl sk ss ns (n + 1) e = cntN st pl sk ss ns n e := fun e => by rw [cntN, hnoN]; rfl
          cbv
          refine ⟨fun hh => absurd (hno.symm.trans hh) (by decide), ⟨fun hh => hh, fun _ => rfl⟩, fun hh => absurd (hno.symm.trans hh) (by decide), fun _ => ?_⟩
          cbv
          refine ⟨{k : Nat // k ≤ C ∧ ∀ j, j < k → dig n j = 2}, fun k => ⟨[(0, .lit true, .one (.c (.func (.yield l) #[] #[]))), (1, .lit true, .one (.ref 5)), (3, .lit true, .one (.ref 9)), (26, .lit true, .one (.ref 9)), (27, .lit true, cint .i64 (.nat (fun _ => C) 0)), (28, .lit true, cint .i64 (.nat (fun _ => k.1) 0))], [(0, sightRow .ro ss), (1, noteRow .ro ns), (2, .box true 27 [.i .i64 (.sy fun _ => st), .i .i64 (.sy fun _ => pl), .i .i64 (.sy fun _ => sk), .ref 0, .ref 1]), (3, kindRow L (cntN st pl sk ss ns (n + 1))), (4, .box true 28 [.ref 3]), (5, .box true 27 [.i .i64 (.sy fun _ => st), .i .i64 (.sy fun _ => pl), .i .i64 (.sy fun _ => sk), .ref 0, .ref 1]), (6, .clo (.func 153) [] [.ref 5]), (7, .obj (.deferred (some []))), (8, .obj (.loop r)), (9, kindRow C (crsK n k.1))], 10⟩, fun k => C - k.1, ⟨0, Nat.zero_le _, fun j hj => absurd hj (Nat.not_lt_zero j)⟩, LeBy.le (pins := [0, 1, 2, 3, 4, 5, 6, 7, 8]) hp (l := [(0, .old 0), (1, .old 1), (2, .old 2), (3, .old 3), (4, .old 4), (5, .old 5), (6, .old 6), (7, .old 7), (8, .old 8), (9, .old 9)]) ?_, fun k => ?_⟩
          · cbv
            simp only [implies_true, and_true, true_and, IX.v_lit, IX.v_nat, IX.v_sy, BX.v_lit, BX.v_sy, NX.v_lit, NX.v_sy, addN, in_true, eq_self, Nat.succ_eq_add_one, intD_eq, encInt_le, encText_le, encSpan_le, encPair_le, encBox_le, encNote_le, encSight_le, cell_i_le, Nat.add_zero, Int.toNat_natCast, Nat.lt_irrefl, if_false, and_self, ncast, imp_self, in_self, in_self2, in_and, Int.cast_ofNat_Int, in_and2, noT, noF]
            refine ⟨⟨⟨fun e he => int1_le (by show ((cntN st pl sk ss ns (n + 1) e : Nat) : Int) = ((cntN st pl sk ss ns n e : Nat) : Int); rw [ho3])⟩, ⟨(crs_len C n).symm⟩, ⟨fun e he => ?_⟩⟩, ⟨(crs_len C n).symm⟩⟩
            rw [show (fun x : PUnit => (crs C n).getD e 0) = fun _ => (dig n e : Int) from funext fun _ => crs_get (by rw [crs_len] at he; exact he)]
            exact int1_le (x := .sy fun _ => (dig n e : Int)) (by unfold crsK; rw [if_neg (Nat.not_lt_zero e)]; rfl)
          · obtain ⟨k, hk, hd⟩ := k
            cbv
            simp only [implies_true, and_true, true_and, IX.v_lit, IX.v_nat, IX.v_sy, BX.v_lit, BX.v_sy, NX.v_lit, NX.v_sy, addN, in_true, eq_self, Nat.succ_eq_add_one, intD_eq, encInt_le, encText_le, encSpan_le, encPair_le, encBox_le, encNote_le, encSight_le, cell_i_le, Nat.add_zero, Int.toNat_natCast, Nat.lt_irrefl, if_false, and_self, ncast, imp_self, in_self, in_self2, in_and, Int.cast_ofNat_Int, in_and2, ltB_t, ltB_f, leB_t, leB_f, eqB_t, eqB_f, ltNB_t, ltNB_f, leNB_t, leNB_f, eqNB_t, eqNB_f, noT, noF, Bool.and_eq_true, Bool.or_eq_true, Bool.and_eq_false_iff, Bool.or_eq_false_iff]
            refine ⟨fun hlt => ?_, fun hlt => ?_⟩
            · cbv
              simp only [implies_true, and_true, true_and, IX.v_lit, IX.v_nat, IX.v_sy, BX.v_lit, BX.v_sy, NX.v_lit, NX.v_sy, addN, in_true, eq_self, Nat.succ_eq_add_one, intD_eq, encInt_le, encText_le, encSpan_le, encPair_le, encBox_le, encNote_le, encSight_le, cell_i_le, Nat.add_zero, Int.toNat_natCast, Nat.lt_irrefl, if_false, and_self, ncast, imp_self, in_self, in_self2, in_and, Int.cast_ofNat_Int, in_and2, ltB_t, ltB_f, leB_t, leB_f, eqB_t, eqB_f, ltNB_t, ltNB_f, leNB_t, leNB_f, eqNB_t, eqNB_f, noT, noF, Bool.and_eq_true, Bool.or_eq_true, Bool.and_eq_false_iff, Bool.or_eq_false_iff]
              have hck : crsK n k k = dig n k := by unfold crsK; rw [if_neg (Nat.lt_irrefl k)]
              refine ⟨⟨by omega⟩, ⟨by omega⟩, fun h2 => ?_, fun h2 => ?_⟩
              · have h2 : dig n k < 2 := by (first | omega | (simp only [ncast] at *; omega))
                cbv
                simp only [implies_true, and_true, true_and, IX.v_lit, IX.v_nat, IX.v_sy, BX.v_lit, BX.v_sy, NX.v_lit, NX.v_sy, addN, in_true, eq_self, Nat.succ_eq_add_one, intD_eq, encInt_le, encText_le, encSpan_le, encPair_le, encBox_le, encNote_le, encSight_le, cell_i_le, Nat.add_zero, Int.toNat_natCast, Nat.lt_irrefl, if_false, and_self, ncast, imp_self, in_self, in_self2, in_and, Int.cast_ofNat_Int, in_and2, ltB_t, ltB_f, leB_t, leB_f, eqB_t, eqB_f, ltNB_t, ltNB_f, leNB_t, leNB_f, eqNB_t, eqNB_f, noT, noF, Bool.and_eq_true, Bool.or_eq_true, Bool.and_eq_false_iff, Bool.or_eq_false_iff]
                refine ⟨⟨by omega⟩, ⟨by omega⟩, ⟨by unfold fitsK; (first | omega | (simp only [ncast] at *; omega))⟩, ⟨by omega⟩, ⟨by omega⟩, ⟨n + 1, dig_more hlt h2 hnC⟩, LeBy.le (pins := [0, 1, 2, 3, 4, 5, 6, 7, 8]) hp (l := [(0, .old 0), (1, .old 1), (2, .old 2), (3, .old 3), (4, .old 4), (5, .old 5), (6, .old 6), (7, .old 7), (8, .old 8), (9, .old 9)]) ?_, by show 3 ^ C - (n + 1) < 3 ^ C - n; omega⟩
                cbv
                simp only [implies_true, and_true, true_and, IX.v_lit, IX.v_nat, IX.v_sy, BX.v_lit, BX.v_sy, NX.v_lit, NX.v_sy, addN, in_true, eq_self, Nat.succ_eq_add_one, intD_eq, encInt_le, encText_le, encSpan_le, encPair_le, encBox_le, encNote_le, encSight_le, cell_i_le, Nat.add_zero, Int.toNat_natCast, Nat.lt_irrefl, if_false, and_self, ncast, imp_self, in_self, in_self2, in_and, Int.cast_ofNat_Int, in_and2, noT, noF]
                refine ⟨⟨crs_len C (n + 1)⟩, ⟨fun e he => ?_⟩⟩
                rw [show (fun x : PUnit => (crs C (n + 1)).getD e 0) = fun _ => (dig (n + 1) e : Int) from funext fun _ => crs_get he]
                refine put1_le (z := .sy fun _ => (dig (n + 1) e : Int)) (fun h3 => ?_) fun h3 => ?_
                · subst h3
                  show ((dig (n + 1) e : Nat) : Int) = ((crsK n e e + 1 : Nat) : Int)
                  rw [hck, dig_next hd h2, if_neg (Nat.lt_irrefl e), if_pos rfl]
                · show ((dig (n + 1) e : Nat) : Int) = ((crsK n k e : Nat) : Int)
                  rw [dig_next hd h2, if_neg h3]
                  rfl
              · have h2 : dig n k = 2 := by have := dig_lt n k; (first | omega | (simp only [ncast] at *; omega))
                cbv
                simp only [implies_true, and_true, true_and, IX.v_lit, IX.v_nat, IX.v_sy, BX.v_lit, BX.v_sy, NX.v_lit, NX.v_sy, addN, in_true, eq_self, Nat.succ_eq_add_one, intD_eq, encInt_le, encText_le, encSpan_le, encPair_le, encBox_le, encNote_le, encSight_le, cell_i_le, Nat.add_zero, Int.toNat_natCast, Nat.lt_irrefl, if_false, and_self, ncast, imp_self, in_self, in_self2, in_and, Int.cast_ofNat_Int, in_and2, ltB_t, ltB_f, leB_t, leB_f, eqB_t, eqB_f, ltNB_t, ltNB_f, leNB_t, leNB_f, eqNB_t, eqNB_f, noT, noF, Bool.and_eq_true, Bool.or_eq_true, Bool.and_eq_false_iff, Bool.or_eq_false_iff]
                refine ⟨⟨by omega⟩, ⟨by omega⟩, ⟨nat_fits hlt (by omega)⟩, ⟨k + 1, by omega, fun j hj => by rcases Nat.lt_succ_iff_lt_or_eq.1 hj with h3 | h3; exact hd j h3; rw [h3]; exact h2⟩, LeBy.le (pins := [0, 1, 2, 3, 4, 5, 6, 7, 8]) hp (l := [(0, .old 0), (1, .old 1), (2, .old 2), (3, .old 3), (4, .old 4), (5, .old 5), (6, .old 6), (7, .old 7), (8, .old 8), (9, .old 9)]) ?_, by show C - (k + 1) < C - k; omega⟩
                cbv
                simp only [implies_true, and_true, true_and, IX.v_lit, IX.v_nat, IX.v_sy, BX.v_lit, BX.v_sy, NX.v_lit, NX.v_sy, addN, in_true, eq_self, Nat.succ_eq_add_one, intD_eq, encInt_le, encText_le, encSpan_le, encPair_le, encBox_le, encNote_le, encSight_le, cell_i_le, Nat.add_zero, Int.toNat_natCast, Nat.lt_irrefl, if_false, and_self, ncast, imp_self, in_self, in_self2, in_and, Int.cast_ofNat_Int, in_and2, noT, noF]
                refine ⟨fun e he => put1_le (fun h3 => ?_) fun h3 => ?_⟩
                · show ((crsK n (k + 1) e : Nat) : Int) = 0
                  unfold crsK
                  rw [if_pos (by omega)]
                  rfl
                · show ((crsK n (k + 1) e : Nat) : Int) = ((crsK n k e : Nat) : Int)
                  unfold crsK
                  by_cases h4 : e < k
                  · rw [if_pos h4, if_pos (by omega)]
                  · rw [if_neg h4, if_neg (by omega)]
            · obtain rfl : C = k := by omega
              have hN := dig_last hd hnC
              cbv
              have e1 : coursesL st pl sk ss ns = (List.range L).map fun k => (cntN st pl sk ss ns (n + 1) k : Int) := by unfold coursesL; rw [decide_eq_true h, hC, ← hN, hLn]; rfl
              have e3 : (coursesL st pl sk ss ns).length = L := by rw [e1]; simp
              have e4 : ∀ e, e < L → (coursesL st pl sk ss ns).getD e 0 = (cntN st pl sk ss ns (n + 1) e : Int) := fun e he => by rw [e1, List.getD_eq_getElem?_getD]; simp [he]
              refine ⟨⟨[.old 3], ?_⟩, ⟨[.old 3], ?_⟩⟩
              · cbv
                simp only [implies_true, and_true, true_and, IX.v_lit, IX.v_nat, IX.v_sy, BX.v_lit, BX.v_sy, NX.v_lit, NX.v_sy, addN, in_true, eq_self, Nat.succ_eq_add_one, intD_eq, encInt_le, encText_le, encSpan_le, encPair_le, encBox_le, encNote_le, encSight_le, cell_i_le, Nat.add_zero, Int.toNat_natCast, Nat.lt_irrefl, if_false, and_self, ncast, imp_self, in_self, in_self2, in_and, Int.cast_ofNat_Int, in_and2, ltB_t, ltB_f, leB_t, leB_f, eqB_t, eqB_f, ltNB_t, ltNB_f, leNB_t, leNB_f, eqNB_t, eqNB_f, noT, noF, Bool.and_eq_true, Bool.or_eq_true, Bool.and_eq_false_iff, Bool.or_eq_false_iff]
                exact ⟨⟨⟨e3⟩, ⟨fun e he => int1_le (x := .nat (fun _ => cntN st pl sk ss ns (n + 1) e) 0) (y := .sy fun _ => (coursesL st pl sk ss ns).getD e 0) (e4 e he)⟩⟩, ⟨h⟩⟩
              · cbv
                simp only [implies_true, and_true, true_and, IX.v_lit, IX.v_nat, IX.v_sy, BX.v_lit, BX.v_sy, NX.v_lit, NX.v_sy, addN, in_true, eq_self, Nat.succ_eq_add_one, intD_eq, encInt_le, encText_le, encSpan_le, encPair_le, encBox_le, encNote_le, encSight_le, cell_i_le, Nat.add_zero, Int.toNat_natCast, Nat.lt_irrefl, if_false, and_self, ncast, imp_self, in_self, in_self2, in_and, Int.cast_ofNat_Int, in_and2, ltB_t, ltB_f, leB_t, leB_f, eqB_t, eqB_f, ltNB_t, ltNB_f, leNB_t, leNB_f, eqNB_t, eqNB_f, noT, noF, Bool.and_eq_true, Bool.or_eq_true, Bool.and_eq_false_iff, Bool.or_eq_false_iff]
                exact ⟨⟨⟨e3⟩, ⟨fun e he => int1_le (x := .nat (fun _ => cntN st pl sk ss ns (n + 1) e) 0) (y := .sy fun _ => (coursesL st pl sk ss ns).getD e 0) (e4 e he)⟩⟩, ⟨h⟩⟩
def spCoursesOf : Spec := fun args M base => match args with
  | [.agg [.i .i64 st, .i .i64 pl, .i .i64 sk, c, d]] => ⟨In fun _ => okLife M c d, .tup [.one (.ref base), .one (.i .i64 (.sy fun _ => checkE st.val pl.val sk.val (sights M c) (notes M d)))], [intRowT 3 fun _ => coursesL st.val pl.val sk.val (sights M c) (notes M d)], [], (seen M c).reads ++ (seen M d).reads⟩
  | _ => bad
theorem congrCoursesOf : spCoursesOf.Congr := by
  intro args M M' base hs h
  unfold spCoursesOf at *
  split at hs
  · simp only [okLife, okSights, okNotes, sights, notes] at h ⊢
    rw [seen_congr (M := M) (M' := M') (fun i hi => h i (List.mem_append_left _ hi)), seen_congr (M := M) (M' := M') (fun i hi => h i (List.mem_append_right _ hi))]
  · exact hs.elim
theorem okCoursesOf : SpecOk F0 Tryz.prog 30 spCoursesOf := by
  refine spec_genM 7 (fn := Tryz.f30) (c := fbody Tryz.f30) (by kernel_rfl) rfl rfl (by kernel_rfl) congrCoursesOf fun args M base hs => ?_
  unfold spCoursesOf at hs ⊢
  split at hs
  · rename_i st pl sk c d
    exact ⟨[(23, spCheck)], fun r => Nat.beq r 5, [.agg [.i .i64 (.sy fun _ => st.val), .i .i64 (.sy fun _ => pl.val), .i .i64 (.sy fun _ => sk.val), .ref 0, .ref 1]], [sightRow .ro (sights M c), noteRow .ro (notes M d)], fun base => .tup [.one (.ref base), .one (.i .i64 (.sy fun _ => checkE st.val pl.val sk.val (sights M c) (notes M d)))], fun _ => [intRowT 3 fun _ => coursesL st.val pl.val sk.val (sights M c) (notes M d)], ⟨okCheck, trivial⟩, Nat.le_of_ble_eq_true rfl, ⟨rfl, trivial⟩, .val rfl (.val rfl (.val rfl (.row (sight_from hs.ok.1) (.row (note_from hs.ok.2.1) .nil)))), rfl, rfl, rfl, ⟨tauN_at (t := 0) (Nat.zero_lt_one : 0 < 1), ⟨isT_iff.2 rfl, ⟨rfl⟩⟩, trivial⟩, ⟨rowOf_le intCod .own _ _, trivial⟩, own1 rfl, courses_vc hs.ok.2.2.1 hs.ok.2.2.2⟩
  · exact hs.elim
end Go.Proofs.YthgllnnlngihoaaGreat.Sx
end
