/- least. (Printed by genr2.py.). -/
import Derived.Test.YthgllnnlngihoaaGreatSz12
section
set_option linter.unusedVariables false
set_option linter.unusedSimpArgs false
set_option maxRecDepth 100000
namespace Go.Proofs.YthgllnnlngihoaaGreat.Sx
open Go.RowKit

section
variable (st pl sk : Int) (ss : List SightD) (ns : List NoteD)
def bestL : Nat → List Int
  | 0 => []
  | n + 1 => bif okN st pl sk ss ns n && (!someK st pl sk ss ns n || decide (changesN (crs (ss.length - 1) n) < changesN (bestL n))) then crs (ss.length - 1) n else bestL n
end
theorem bestL_len {st pl sk : Int} {ss : List SightD} {ns : List NoteD} (n : Nat) : (bestL st pl sk ss ns n).length ≤ ss.length - 1 := by
  induction n with
  | zero => simp [bestL]
  | succ n ih =>
    rw [bestL]
    cases okN st pl sk ss ns n && (!someK st pl sk ss ns n || decide (changesN (crs (ss.length - 1) n) < changesN (bestL st pl sk ss ns n))) with
    | true => exact Nat.le_of_eq (crs_len _ _)
    | false => exact ih
theorem changesN_le2 : ∀ xs : List Int, changesN xs ≤ xs.length
  | [] => Nat.le_refl _
  | x :: xs => by
    have := changesN_le2 xs
    simp only [changesN, List.length_cons]
    split <;> omega
noncomputable def leastEn : En := enP [] (fun r => Nat.beq r 3) pts87
theorem least_vc {st pl sk : Int} {ss : List SightD} {ns : List NoteD} (hR : RunOk st pl sk ss ns) (B : Nat) :
    vc leastEn ⟨fun _ => none, B, fun _ => False, Tryz.f91.ntmps, some 7⟩ (fbody Tryz.f91) (start [.agg [.i .i64 (.sy fun _ => st), .i .i64 (.sy fun _ => pl), .i .i64 (.sy fun _ => sk), .ref 0, .ref 1]] [sightRow .ro ss, noteRow .ro ns])
      fun x s => isRet x ∧ markP tab Tryz.f91.results.toList 7 (fun s => ∃ js, FinBy tab Tryz.f91.results.toList js s (.tup [.one (.ref 0), .one (.b (.sy fun _ => someK st pl sk ss ns (3 ^ (ss.length - 1))))]) [intRowT 3 fun _ => bestL st pl sk ss ns (3 ^ (ss.length - 1))]) s := by
  have hn := hR.pos
  have hn9 := hR.few
  have hns := hR.notes
  cbv
  refine ⟨[0, 1, 2, 3, 4, 7], fun π hπ1 hπ2 => ?_⟩
  unfold pt87 ptFn
  refine ⟨Nat.le_of_ble_eq_true rfl, ?_⟩
  cbv
  simp only [implies_true, and_true, true_and, IX.v_lit, IX.v_nat, IX.v_sy, BX.v_lit, BX.v_sy, NX.v_lit, NX.v_sy, addN, in_true, eq_self, Nat.succ_eq_add_one, intD_eq, encInt_le, encText_le, encSpan_le, encPair_le, encBox_le, encNote_le, encSight_le, cell_i_le, Nat.add_zero, Int.toNat_natCast, Nat.lt_irrefl, if_false, and_self, ncast, imp_self, in_self, in_self2, in_and, Int.cast_ofNat_Int, in_and2, noT, noF]
  refine ⟨fun i hi => by cases hi; rfl, ?_⟩
  cbv
  try simp only [implies_true, and_true, true_and, IX.v_lit, IX.v_nat, IX.v_sy, BX.v_lit, BX.v_sy, NX.v_lit, NX.v_sy, addN, in_true, eq_self, Nat.succ_eq_add_one, intD_eq, encInt_le, encText_le, encSpan_le, encPair_le, encBox_le, encNote_le, encSight_le, cell_i_le, Nat.add_zero, Int.toNat_natCast, Nat.lt_irrefl, if_false, and_self, ncast, imp_self, in_self, in_self2, in_and, Int.cast_ofNat_Int, in_and2, noT, noF]
  refine ⟨rangeFunc_tri (e := leastEn) (enP_ok (l := []) trivial pts87_ok) rfl [0, 1, 2, 3, 4, 5, 6] rfl trivial fun l r π hr1 hr2 hr3 hr4 hr5 hr6 hπ3 hπ4 hπ5 hσ => ?_⟩
  refine ⟨153, _, pt153 l (ptEx fun q : Nat × Nat => ptYield (enB [(90, spCh 9 q.1 q.2), (84, spClone)] l) l 8 r π _ 24 [9, 10] _ _), rfl, pt153_ok (ptEx_ok fun q => ptYield_ok (enB_ok (l := [(90, spCh 9 q.1 q.2), (84, spClone)]) ⟨okCh 9 q.1 q.2, okClone, trivial⟩ l) rfl hr1 hr2 (by rw [hr3]) hr4 hr5 hr6 hπ5 (fun σ hh => hσ σ hh) (by decide) (by kernel_rfl) (by kernel_rfl) fun _ => trivial), ?_⟩
  · unfold pt153 ptFn
    refine ⟨Nat.le_of_ble_eq_true rfl, ?_⟩
    have hp : ∀ i u, π i = some u → i ∈ [0, 1, 2, 3, 4, 5, 6, 7, 8] := fun i u hu => by
      rcases hπ3 i u hu with h1 | ⟨v, h1⟩
      · have := inL_mem h1
        simp only [List.mem_cons, List.not_mem_nil, or_false] at this ⊢
        omega
      · cases h1
    clear hr4 hr5 hσ hπ3 hπ4 hπ5
    cbv
    simp only [implies_true, and_true, true_and, IX.v_lit, IX.v_nat, IX.v_sy, BX.v_lit, BX.v_sy, NX.v_lit, NX.v_sy, addN, in_true, eq_self, Nat.succ_eq_add_one, intD_eq, encInt_le, encText_le, encSpan_le, encPair_le, encBox_le, encNote_le, encSight_le, cell_i_le, Nat.add_zero, Int.toNat_natCast, Nat.lt_irrefl, if_false, and_self, ncast, imp_self, in_self, in_self2, in_and, Int.cast_ofNat_Int, in_and2, noT, noF]
    obtain ⟨C, hC⟩ : ∃ C, ss.length - 1 = C := ⟨_, rfl⟩
    obtain ⟨L, hLn⟩ : ∃ L, ss.length = L := ⟨_, rfl⟩
    refine ⟨⟨by rfl⟩, ⟨by unfold fitsK; omega⟩, ⟨⟨by omega⟩, ⟨by omega, by omega⟩⟩, {n : Nat // n < 3 ^ C}, fun i => ⟨[(0, .lit true, .one (.c (.func (.yield l) #[] #[]))), (1, .lit true, .one (.ref 5)), (3, .lit true, .one (.ref 9))], [(0, sightRow .ro ss), (1, noteRow .ro ns), (2, .box true 27 [.i .i64 (.sy fun _ => st), .i .i64 (.sy fun _ => pl), .i .i64 (.sy fun _ => sk), .ref 0, .ref 1]), (3, .box true 28 [.ref 10]), (4, .box true 4 [.b (.sy fun _ => someK st pl sk ss ns i.1)]), (5, .box true 27 [.i .i64 (.sy fun _ => st), .i .i64 (.sy fun _ => pl), .i .i64 (.sy fun _ => sk), .ref 0, .ref 1]), (6, .clo (.func 153) [] [.ref 5]), (7, .obj (.deferred (some []))), (8, .obj (.loop r)), (9, intRowT 3 fun _ => crs C i.1), (10, intRowT 3 fun _ => bestL st pl sk ss ns i.1)], 11⟩, fun i => 3 ^ C - i.1, ⟨0, pow3_pos _⟩, LeBy.le (pins := [0, 1, 2, 3, 4, 5, 6, 7, 8]) hp (l := [(0, .old 0), (1, .old 1), (2, .old 2), (3, .old 3), (4, .old 4), (5, .old 5), (6, .old 6), (7, .old 7), (8, .old 8), (9, .old 9), (10, .nil)]) ?_, fun i => ?_⟩
    · cbv
      simp only [implies_true, and_true, true_and, IX.v_lit, IX.v_nat, IX.v_sy, BX.v_lit, BX.v_sy, NX.v_lit, NX.v_sy, addN, in_true, eq_self, Nat.succ_eq_add_one, intD_eq, encInt_le, encText_le, encSpan_le, encPair_le, encBox_le, encNote_le, encSight_le, cell_i_le, Nat.add_zero, Int.toNat_natCast, Nat.lt_irrefl, if_false, and_self, ncast, imp_self, in_self, in_self2, in_and, Int.cast_ofNat_Int, in_and2, noT, noF]
      refine ⟨⟨rfl⟩, ⟨⟨by rw [crs_len]; omega⟩, ⟨fun e he => ?_⟩⟩, ⟨rfl⟩⟩
      rw [show (fun x : PUnit => (crs C 0).getD e 0) = fun _ => 0 from funext fun _ => by rw [crs_get (by omega), dig_zero]; rfl]
      exact int1_le (x := .lit 0) (y := .sy fun _ => 0) rfl
    · obtain ⟨n, hnC⟩ := i
      cbv
      simp only [implies_true, and_true, true_and, IX.v_lit, IX.v_nat, IX.v_sy, BX.v_lit, BX.v_sy, NX.v_lit, NX.v_sy, addN, in_true, eq_self, Nat.succ_eq_add_one, intD_eq, encInt_le, encText_le, encSpan_le, encPair_le, encBox_le, encNote_le, encSight_le, cell_i_le, Nat.add_zero, Int.toNat_natCast, Nat.lt_irrefl, if_false, and_self, ncast, imp_self, in_self, in_self2, in_and, Int.cast_ofNat_Int, in_and2, noT, noF]
      refine ⟨⟨tell_side rfl rfl rfl (by omega) (by rw [← hC]; exact run_thru hR n)⟩, ?_⟩
      simp only [in_true, eq_self, and_true, true_and, ints, texts, spans, pairs, boxs, notes, sights, seen, lget, reduceIte, Nat.reduceEqDiff, reduceCtorEq, Nat.succ_ne_self, Nat.zero_ne_one, Nat.one_ne_zero, int_row0, int_row, text_row, span_row, pair_row, box_row, note_row, sight_row]
      refine ⟨fun hok => ?_, fun hno => ?_⟩
      · have hok : tellOk st pl sk ss ns (crs C n) = true := hok
        have hokN : okN st pl sk ss ns n = true := by unfold okN; rw [hC]; exact hok
        refine ⟨?_, [0, 1, 2, 3, 4, 5, 6, 7, 8, 9], fun π2 hπa hπb => ?_⟩
        · cbv
          exact ⟨⟨hok⟩, ⟨hok⟩, ⟨hok⟩, trivial⟩
        · obtain ⟨m1, hm1⟩ : ∃ m, changesN (crs C n) = m := ⟨_, rfl⟩
          obtain ⟨m2, hm2⟩ : ∃ m, changesN (bestL st pl sk ss ns n) = m := ⟨_, rfl⟩
          refine ⟨(m1, m2), ?_⟩
          show ptYield _ _ _ _ _ _ _ _ _ _ _ _ _ _ _
          unfold ptYield
          refine ⟨hπb, rfl, rfl, ?_⟩
          have hp2 : ∀ i u, π2 i = some u → i ∈ [0, 1, 2, 3, 4, 5, 6, 7, 8, 9] := fun i u hu => by
            rcases hπa i u hu with h1 | ⟨v, h1⟩
            · exact inL_mem h1
            · have := hp i v h1
              simp only [List.mem_cons, List.not_mem_nil, or_false] at this ⊢
              omega
          have hcl := crs_len C n
          cbv
          have hbl := bestL_len (st := st) (pl := pl) (sk := sk) (ss := ss) (ns := ns) n
          refine ⟨fun _ => trivial, fun hs => ⟨⟨⟨hs⟩, trivial⟩, ⟨⟨(ints_at (crs C n) _ _ rfl).1, by rw [(ints_at (crs C n) _ _ rfl).2]; omega⟩, by rw [(ints_at (crs C n) _ _ rfl).2]; exact hm1⟩⟩, fun _ => trivial, fun hs => ⟨⟨⟨hs⟩, trivial⟩, ⟨⟨(ints_at (bestL st pl sk ss ns n) _ _ rfl).1, by rw [(ints_at (bestL st pl sk ss ns n) _ _ rfl).2]; omega⟩, by rw [(ints_at (bestL st pl sk ss ns n) _ _ rfl).2]; exact hm2⟩⟩, fun hs => ⟨⟨⟨hs⟩, ⟨hs⟩, trivial⟩, trivial⟩, ⟨fun _ => rfl, fun hh => congrArg not hh⟩, fun hy => ?_, fun hy => ?_⟩
          · have hy : (!someK st pl sk ss ns n || decide (m1 < m2)) = true := hy
            have he1 : bestL st pl sk ss ns (n + 1) = crs C n := by rw [bestL, hokN, hC, hm1, hm2, hy]; rfl
            have he2 : someK st pl sk ss ns (n + 1) = true := by rw [someK, hokN]; rfl
            cbv
            refine ⟨⟨(ints_at (crs C n) _ _ rfl).1, by rw [(ints_at (crs C n) _ _ rfl).2]; omega⟩, ?_⟩
            simp only [in_true, eq_self, and_true, true_and, ints, texts, spans, pairs, boxs, notes, sights, seen, lget, reduceIte, Nat.reduceEqDiff, reduceCtorEq, Nat.succ_ne_self, Nat.zero_ne_one, Nat.one_ne_zero, int_row0, int_row, text_row, span_row, pair_row, box_row, note_row, sight_row]
            refine ⟨fun i hi => hi.elim, fun _ => trivial, ⟨fun _ => hok, fun _ => rfl⟩, ?_⟩
            refine ⟨{k : Nat // k ≤ C ∧ ∀ j, j < k → dig n j = 2}, fun k => ⟨[(0, .lit true, .one (.c (.func (.yield l) #[] #[]))), (1, .lit true, .one (.ref 5)), (3, .lit true, .one (.ref 9)), (26, .lit true, .one (.ref 9)), (27, .lit true, cint .i64 (.nat (fun _ => C) 0)), (28, .lit true, cint .i64 (.nat (fun _ => k.1) 0))], [(0, sightRow .ro ss), (1, noteRow .ro ns), (2, .box true 27 [.i .i64 (.sy fun _ => st), .i .i64 (.sy fun _ => pl), .i .i64 (.sy fun _ => sk), .ref 0, .ref 1]), (3, .box true 28 [.ref 10]), (4, .box true 4 [.b (.sy fun _ => someK st pl sk ss ns (n + 1))]), (5, .box true 27 [.i .i64 (.sy fun _ => st), .i .i64 (.sy fun _ => pl), .i .i64 (.sy fun _ => sk), .ref 0, .ref 1]), (6, .clo (.func 153) [] [.ref 5]), (7, .obj (.deferred (some []))), (8, .obj (.loop r)), (9, kindRow C (crsK n k.1)), (10, intRowT 3 fun _ => bestL st pl sk ss ns (n + 1))], 11⟩, fun k => C - k.1, ⟨0, Nat.zero_le _, fun j hj => absurd hj (Nat.not_lt_zero j)⟩, LeBy.le (pins := [0, 1, 2, 3, 4, 5, 6, 7, 8]) hp (l := [(0, .old 0), (1, .old 1), (2, .old 2), (3, .old 3), (4, .old 4), (5, .old 5), (6, .old 6), (7, .old 7), (8, .old 8), (9, .old 9), (10, .old 15)]) ?_, fun k => ?_⟩
            · cbv
              simp only [implies_true, and_true, true_and, IX.v_lit, IX.v_nat, IX.v_sy, BX.v_lit, BX.v_sy, NX.v_lit, NX.v_sy, addN, in_true, eq_self, Nat.succ_eq_add_one, intD_eq, encInt_le, encText_le, encSpan_le, encPair_le, encBox_le, encNote_le, encSight_le, cell_i_le, Nat.add_zero, Int.toNat_natCast, Nat.lt_irrefl, if_false, and_self, ncast, imp_self, in_self, in_self2, in_and, Int.cast_ofNat_Int, in_and2, noT, noF]
              refine ⟨⟨⟨he2⟩, ⟨⟨(crs_len C n).symm⟩, ⟨fun e he => ?_⟩⟩, ⟨by rw [he1]⟩, ⟨fun e he => by rw [he1]; exact closedL_le rfl⟩⟩, ⟨(crs_len C n).symm⟩⟩
              rw [show (fun x : PUnit => (crs C n).getD e 0) = fun _ => (dig n e : Int) from funext fun _ => crs_get (by rw [crs_len] at he; exact he)]
              exact int1_le (x := .sy fun _ => (dig n e : Int)) (by unfold crsK; rw [if_neg (Nat.not_lt_zero e)]; rfl)
            · obtain ⟨k, hk, hd⟩ := k
              cbv
              simp only [implies_true, and_true, true_and, IX.v_lit, IX.v_nat, IX.v_sy, BX.v_lit, BX.v_sy, NX.v_lit, NX.v_sy, addN, in_true, eq_self, Nat.succ_eq_add_one, intD_eq, encInt_le, encText_le, encSpan_le, encPair_le, encBox_le, encNote_le, encSight_le, cell_i_le, Nat.add_zero, Int.toNat_natCast, Nat.lt_irrefl, if_false, and_self, ncast, imp_self, in_self, in_self2, in_and, Int.cast_ofNat_Int, in_and2, ltB_t, ltB_f, leB_t, leB_f, eqB_t, eqB_f, ltNB_t, ltNB_f, leNB_t, leNB_f, eqNB_t, eqNB_f, noT, noF, Bool.and_eq_true, Bool.or_eq_true, Bool.and_eq_false_iff, Bool.or_eq_false_iff]
              refine ⟨fun hlt => ?_, fun hlt => ?_⟩
              · cbv
                simp only [implies_true, and_true, true_and, IX.v_lit, IX.v_nat, IX.v_sy, BX.v_lit, BX.v_sy, NX.v_lit, NX.v_sy, addN, in_true, eq_self, Nat.succ_eq_add_one, intD_eq, encInt_le, encText_le, encSpan_le, encPair_le, encBox_le, encNote_le, encSight_le, cell_i_le, Nat.add_zero, Int.toNat_natCast, Nat.lt_irrefl, if_false, and_self, ncast, imp_self, in_self, in_self2, in_and, Int.cast_ofNat_Int, in_and2, ltB_t, ltB_f, leB_t, leB_f, eqB_t, eqB_f, ltNB_t, ltNB_f, leNB_t, leNB_f, eqNB_t, eqNB_f, noT, noF, Bool.and_eq_true, Bool.or_eq_true, Bool.and_eq_false_iff, Bool.or_eq_false_iff]
                have hck : crsK n k k = dig n k := by unfold crsK; rw [if_neg (Nat.lt_irrefl k)]
                refine ⟨⟨by omega⟩, ⟨by omega⟩, fun h2 => ?_, fun h2 => ?_⟩
                · have h2 : dig n k < 2 := by (first | omega | (simp only [ncast] at *; omega))
                  cbv
                  simp only [implies_true, and_true, true_and, IX.v_lit, IX.v_nat, IX.v_sy, BX.v_lit, BX.v_sy, NX.v_lit, NX.v_sy, addN, in_true, eq_self, Nat.succ_eq_add_one, intD_eq, encInt_le, encText_le, encSpan_le, encPair_le, encBox_le, encNote_le, encSight_le, cell_i_le, Nat.add_zero, Int.toNat_natCast, Nat.lt_irrefl, if_false, and_self, ncast, imp_self, in_self, in_self2, in_and, Int.cast_ofNat_Int, in_and2, ltB_t, ltB_f, leB_t, leB_f, eqB_t, eqB_f, ltNB_t, ltNB_f, leNB_t, leNB_f, eqNB_t, eqNB_f, noT, noF, Bool.and_eq_true, Bool.or_eq_true, Bool.and_eq_false_iff, Bool.or_eq_false_iff]
                  refine ⟨⟨by omega⟩, ⟨by omega⟩, ⟨by unfold fitsK; (first | omega | (simp only [ncast] at *; omega))⟩, ⟨by omega⟩, ⟨by omega⟩, ⟨n + 1, dig_more hlt h2 hnC⟩, LeBy.le (pins := [0, 1, 2, 3, 4, 5, 6, 7, 8]) hp (l := [(0, .old 0), (1, .old 1), (2, .old 2), (3, .old 3), (4, .old 4), (5, .old 5), (6, .old 6), (7, .old 7), (8, .old 8), (9, .old 9), (10, .old 10)]) ?_, by show 3 ^ C - (n + 1) < 3 ^ C - n; omega⟩
                  cbv
                  simp only [implies_true, and_true, true_and, IX.v_lit, IX.v_nat, IX.v_sy, BX.v_lit, BX.v_sy, NX.v_lit, NX.v_sy, addN, in_true, eq_self, Nat.succ_eq_add_one, intD_eq, encInt_le, encText_le, encSpan_le, encPair_le, encBox_le, encNote_le, encSight_le, cell_i_le, Nat.add_zero, Int.toNat_natCast, Nat.lt_irrefl, if_false, and_self, ncast, imp_self, in_self, in_self2, in_and, Int.cast_ofNat_Int, in_and2, noT, noF]
                  refine ⟨⟨crs_len C (n + 1)⟩, ⟨fun e he => ?_⟩⟩
                  rw [show (fun x : PUnit => (crs C (n + 1)).getD e 0) = fun _ => (dig (n + 1) e : Int) from funext fun _ => crs_get he]
                  refine put1_le (z := .sy fun _ => (dig (n + 1) e : Int)) (fun h3 => ?_) fun h3 => ?_
                  · subst h3
                    show ((dig (n + 1) e : Nat) : Int) = ((crsK n e e + 1 : Nat) : Int)
                    rw [hck, dig_next hd h2, if_neg (Nat.lt_irrefl e), if_pos rfl]
                  · show ((dig (n + 1) e : Nat) : Int) = ((crsK n k e : Nat) : Int)
                    rw [dig_next hd h2, if_neg h3]
                    rfl
                · have h2 : dig n k = 2 := by have := dig_lt n k; (first | omega | (simp only [ncast] at *; omega))
                  cbv
                  simp only [implies_true, and_true, true_and, IX.v_lit, IX.v_nat, IX.v_sy, BX.v_lit, BX.v_sy, NX.v_lit, NX.v_sy, addN, in_true, eq_self, Nat.succ_eq_add_one, intD_eq, encInt_le, encText_le, encSpan_le, encPair_le, encBox_le, encNote_le, encSight_le, cell_i_le, Nat.add_zero, Int.toNat_natCast, Nat.lt_irrefl, if_false, and_self, ncast, imp_self, in_self, in_self2, in_and, Int.cast_ofNat_Int, in_and2, ltB_t, ltB_f, leB_t, leB_f, eqB_t, eqB_f, ltNB_t, ltNB_f, leNB_t, leNB_f, eqNB_t, eqNB_f, noT, noF, Bool.and_eq_true, Bool.or_eq_true, Bool.and_eq_false_iff, Bool.or_eq_false_iff]
                  refine ⟨⟨by omega⟩, ⟨by omega⟩, ⟨nat_fits hlt (by omega)⟩, ⟨k + 1, by omega, fun j hj => by rcases Nat.lt_succ_iff_lt_or_eq.1 hj with h3 | h3; exact hd j h3; rw [h3]; exact h2⟩, LeBy.le (pins := [0, 1, 2, 3, 4, 5, 6, 7, 8]) hp (l := [(0, .old 0), (1, .old 1), (2, .old 2), (3, .old 3), (4, .old 4), (5, .old 5), (6, .old 6), (7, .old 7), (8, .old 8), (9, .old 9), (10, .old 10)]) ?_, by show C - (k + 1) < C - k; omega⟩
                  cbv
                  simp only [implies_true, and_true, true_and, IX.v_lit, IX.v_nat, IX.v_sy, BX.v_lit, BX.v_sy, NX.v_lit, NX.v_sy, addN, in_true, eq_self, Nat.succ_eq_add_one, intD_eq, encInt_le, encText_le, encSpan_le, encPair_le, encBox_le, encNote_le, encSight_le, cell_i_le, Nat.add_zero, Int.toNat_natCast, Nat.lt_irrefl, if_false, and_self, ncast, imp_self, in_self, in_self2, in_and, Int.cast_ofNat_Int, in_and2, noT, noF]
                  refine ⟨fun e he => put1_le (fun h3 => ?_) fun h3 => ?_⟩
                  · show ((crsK n (k + 1) e : Nat) : Int) = 0
                    unfold crsK
                    rw [if_pos (by omega)]
                    rfl
                  · show ((crsK n (k + 1) e : Nat) : Int) = ((crsK n k e : Nat) : Int)
                    unfold crsK
                    by_cases h4 : e < k
                    · rw [if_pos h4, if_pos (by omega)]
                    · rw [if_neg h4, if_neg (by omega)]
              · obtain rfl : C = k := by omega
                have hN := dig_last hd hnC
                cbv
                refine ⟨⟨[.old 10], ?_⟩, ⟨[.old 10], ?_⟩⟩
                · cbv
                  simp only [implies_true, and_true, true_and, IX.v_lit, IX.v_nat, IX.v_sy, BX.v_lit, BX.v_sy, NX.v_lit, NX.v_sy, addN, in_true, eq_self, Nat.succ_eq_add_one, intD_eq, encInt_le, encText_le, encSpan_le, encPair_le, encBox_le, encNote_le, encSight_le, cell_i_le, Nat.add_zero, Int.toNat_natCast, Nat.lt_irrefl, if_false, and_self, ncast, imp_self, in_self, in_self2, in_and, Int.cast_ofNat_Int, in_and2, ltB_t, ltB_f, leB_t, leB_f, eqB_t, eqB_f, ltNB_t, ltNB_f, leNB_t, leNB_f, eqNB_t, eqNB_f, noT, noF, Bool.and_eq_true, Bool.or_eq_true, Bool.and_eq_false_iff, Bool.or_eq_false_iff]
                  rw [hC, ← hN]
                  exact ⟨⟨⟨rfl⟩, ⟨fun e he => closedL_le rfl⟩⟩, ⟨rfl⟩⟩
                · cbv
                  simp only [implies_true, and_true, true_and, IX.v_lit, IX.v_nat, IX.v_sy, BX.v_lit, BX.v_sy, NX.v_lit, NX.v_sy, addN, in_true, eq_self, Nat.succ_eq_add_one, intD_eq, encInt_le, encText_le, encSpan_le, encPair_le, encBox_le, encNote_le, encSight_le, cell_i_le, Nat.add_zero, Int.toNat_natCast, Nat.lt_irrefl, if_false, and_self, ncast, imp_self, in_self, in_self2, in_and, Int.cast_ofNat_Int, in_and2, ltB_t, ltB_f, leB_t, leB_f, eqB_t, eqB_f, ltNB_t, ltNB_f, leNB_t, leNB_f, eqNB_t, eqNB_f, noT, noF, Bool.and_eq_true, Bool.or_eq_true, Bool.and_eq_false_iff, Bool.or_eq_false_iff]
                  rw [hC, ← hN]
                  exact ⟨⟨⟨rfl⟩, ⟨fun e he => closedL_le rfl⟩⟩, ⟨rfl⟩⟩
          · have hy : (!someK st pl sk ss ns n || decide (m1 < m2)) = false := hy
            have he1 : bestL st pl sk ss ns (n + 1) = bestL st pl sk ss ns n := by rw [bestL, hokN, hC, hm1, hm2, hy]; rfl
            have he2 : someK st pl sk ss ns (n + 1) = someK st pl sk ss ns n := by
              have : someK st pl sk ss ns n = true := by revert hy; cases someK st pl sk ss ns n <;> simp
              rw [someK, hokN, this]; rfl
            cbv
            refine ⟨fun i hi => hi.elim, fun _ => trivial, ⟨fun _ => hok, fun _ => rfl⟩, ?_⟩
            refine ⟨{k : Nat // k ≤ C ∧ ∀ j, j < k → dig n j = 2}, fun k => ⟨[(0, .lit true, .one (.c (.func (.yield l) #[] #[]))), (1, .lit true, .one (.ref 5)), (3, .lit true, .one (.ref 9)), (26, .lit true, .one (.ref 9)), (27, .lit true, cint .i64 (.nat (fun _ => C) 0)), (28, .lit true, cint .i64 (.nat (fun _ => k.1) 0))], [(0, sightRow .ro ss), (1, noteRow .ro ns), (2, .box true 27 [.i .i64 (.sy fun _ => st), .i .i64 (.sy fun _ => pl), .i .i64 (.sy fun _ => sk), .ref 0, .ref 1]), (3, .box true 28 [.ref 10]), (4, .box true 4 [.b (.sy fun _ => someK st pl sk ss ns (n + 1))]), (5, .box true 27 [.i .i64 (.sy fun _ => st), .i .i64 (.sy fun _ => pl), .i .i64 (.sy fun _ => sk), .ref 0, .ref 1]), (6, .clo (.func 153) [] [.ref 5]), (7, .obj (.deferred (some []))), (8, .obj (.loop r)), (9, kindRow C (crsK n k.1)), (10, intRowT 3 fun _ => bestL st pl sk ss ns (n + 1))], 11⟩, fun k => C - k.1, ⟨0, Nat.zero_le _, fun j hj => absurd hj (Nat.not_lt_zero j)⟩, LeBy.le (pins := [0, 1, 2, 3, 4, 5, 6, 7, 8]) hp (l := [(0, .old 0), (1, .old 1), (2, .old 2), (3, .old 3), (4, .old 4), (5, .old 5), (6, .old 6), (7, .old 7), (8, .old 8), (9, .old 9), (10, .old 10)]) ?_, fun k => ?_⟩
            · cbv
              simp only [implies_true, and_true, true_and, IX.v_lit, IX.v_nat, IX.v_sy, BX.v_lit, BX.v_sy, NX.v_lit, NX.v_sy, addN, in_true, eq_self, Nat.succ_eq_add_one, intD_eq, encInt_le, encText_le, encSpan_le, encPair_le, encBox_le, encNote_le, encSight_le, cell_i_le, Nat.add_zero, Int.toNat_natCast, Nat.lt_irrefl, if_false, and_self, ncast, imp_self, in_self, in_self2, in_and, Int.cast_ofNat_Int, in_and2, noT, noF]
              refine ⟨⟨⟨he2⟩, ⟨⟨(crs_len C n).symm⟩, ⟨fun e he => ?_⟩⟩, ⟨by rw [he1]⟩, ⟨fun e he => by rw [he1]; exact closedL_le rfl⟩⟩, ⟨(crs_len C n).symm⟩⟩
              rw [show (fun x : PUnit => (crs C n).getD e 0) = fun _ => (dig n e : Int) from funext fun _ => crs_get (by rw [crs_len] at he; exact he)]
              exact int1_le (x := .sy fun _ => (dig n e : Int)) (by unfold crsK; rw [if_neg (Nat.not_lt_zero e)]; rfl)
            · obtain ⟨k, hk, hd⟩ := k
              cbv
              simp only [implies_true, and_true, true_and, IX.v_lit, IX.v_nat, IX.v_sy, BX.v_lit, BX.v_sy, NX.v_lit, NX.v_sy, addN, in_true, eq_self, Nat.succ_eq_add_one, intD_eq, encInt_le, encText_le, encSpan_le, encPair_le, encBox_le, encNote_le, encSight_le, cell_i_le, Nat.add_zero, Int.toNat_natCast, Nat.lt_irrefl, if_false, and_self, ncast, imp_self, in_self, in_self2, in_and, Int.cast_ofNat_Int, in_and2, ltB_t, ltB_f, leB_t, leB_f, eqB_t, eqB_f, ltNB_t, ltNB_f, leNB_t, leNB_f, eqNB_t, eqNB_f, noT, noF, Bool.and_eq_true, Bool.or_eq_true, Bool.and_eq_false_iff, Bool.or_eq_false_iff]
              refine ⟨fun hlt => ?_, fun hlt => ?_⟩
              · cbv
                simp only [implies_true, and_true, true_and, IX.v_lit, IX.v_nat, IX.v_sy, BX.v_lit, BX.v_sy, NX.v_lit, NX.v_sy, addN, in_true, eq_self, Nat.succ_eq_add_one, intD_eq, encInt_le, encText_le, encSpan_le, encPair_le, encBox_le, encNote_le, encSight_le, cell_i_le, Nat.add_zero, Int.toNat_natCast, Nat.lt_irrefl, if_false, and_self, ncast, imp_self, in_self, in_self2, in_and, Int.cast_ofNat_Int, in_and2, ltB_t, ltB_f, leB_t, leB_f, eqB_t, eqB_f, ltNB_t, ltNB_f, leNB_t, leNB_f, eqNB_t, eqNB_f, noT, noF, Bool.and_eq_true, Bool.or_eq_true, Bool.and_eq_false_iff, Bool.or_eq_false_iff]
                have hck : crsK n k k = dig n k := by unfold crsK; rw [if_neg (Nat.lt_irrefl k)]
                refine ⟨⟨by omega⟩, ⟨by omega⟩, fun h2 => ?_, fun h2 => ?_⟩
                · have h2 : dig n k < 2 := by (first | omega | (simp only [ncast] at *; omega))
                  cbv
                  simp only [implies_true, and_true, true_and, IX.v_lit, IX.v_nat, IX.v_sy, BX.v_lit, BX.v_sy, NX.v_lit, NX.v_sy, addN, in_true, eq_self, Nat.succ_eq_add_one, intD_eq, encInt_le, encText_le, encSpan_le, encPair_le, encBox_le, encNote_le, encSight_le, cell_i_le, Nat.add_zero, Int.toNat_natCast, Nat.lt_irrefl, if_false, and_self, ncast, imp_self, in_self, in_self2, in_and, Int.cast_ofNat_Int, in_and2, ltB_t, ltB_f, leB_t, leB_f, eqB_t, eqB_f, ltNB_t, ltNB_f, leNB_t, leNB_f, eqNB_t, eqNB_f, noT, noF, Bool.and_eq_true, Bool.or_eq_true, Bool.and_eq_false_iff, Bool.or_eq_false_iff]
                  refine ⟨⟨by omega⟩, ⟨by omega⟩, ⟨by unfold fitsK; (first | omega | (simp only [ncast] at *; omega))⟩, ⟨by omega⟩, ⟨by omega⟩, ⟨n + 1, dig_more hlt h2 hnC⟩, LeBy.le (pins := [0, 1, 2, 3, 4, 5, 6, 7, 8]) hp (l := [(0, .old 0), (1, .old 1), (2, .old 2), (3, .old 3), (4, .old 4), (5, .old 5), (6, .old 6), (7, .old 7), (8, .old 8), (9, .old 9), (10, .old 10)]) ?_, by show 3 ^ C - (n + 1) < 3 ^ C - n; omega⟩
                  cbv
                  simp only [implies_true, and_true, true_and, IX.v_lit, IX.v_nat, IX.v_sy, BX.v_lit, BX.v_sy, NX.v_lit, NX.v_sy, addN, in_true, eq_self, Nat.succ_eq_add_one, intD_eq, encInt_le, encText_le, encSpan_le, encPair_le, encBox_le, encNote_le, encSight_le, cell_i_le, Nat.add_zero, Int.toNat_natCast, Nat.lt_irrefl, if_false, and_self, ncast, imp_self, in_self, in_self2, in_and, Int.cast_ofNat_Int, in_and2, noT, noF]
                  refine ⟨⟨crs_len C (n + 1)⟩, ⟨fun e he => ?_⟩⟩
                  rw [show (fun x : PUnit => (crs C (n + 1)).getD e 0) = fun _ => (dig (n + 1) e : Int) from funext fun _ => crs_get he]
                  refine put1_le (z := .sy fun _ => (dig (n + 1) e : Int)) (fun h3 => ?_) fun h3 => ?_
                  · subst h3
                    show ((dig (n + 1) e : Nat) : Int) = ((crsK n e e + 1 : Nat) : Int)
                    rw [hck, dig_next hd h2, if_neg (Nat.lt_irrefl e), if_pos rfl]
                  · show ((dig (n + 1) e : Nat) : Int) = ((crsK n k e : Nat) : Int)
                    rw [dig_next hd h2, if_neg h3]
                    rfl
                · have h2 : dig n k = 2 := by have := dig_lt n k; (first | omega | (simp only [ncast] at *; omega))
                  cbv
                  simp only [implies_true, and_true, true_and, IX.v_lit, IX.v_nat, IX.v_sy, BX.v_lit, BX.v_sy, NX.v_lit, NX.v_sy, addN, in_true, eq_self, Nat.succ_eq_add_one, intD_eq, encInt_le, encText_le, encSpan_le, encPair_le, encBox_le, encNote_le, encSight_le, cell_i_le, Nat.add_zero, Int.toNat_natCast, Nat.lt_irrefl, if_false, and_self, ncast, imp_self, in_self, in_self2, in_and, Int.cast_ofNat_Int, in_and2, ltB_t, ltB_f, leB_t, leB_f, eqB_t, eqB_f, ltNB_t, ltNB_f, leNB_t, leNB_f, eqNB_t, eqNB_f, noT, noF, Bool.and_eq_true, Bool.or_eq_true, Bool.and_eq_false_iff, Bool.or_eq_false_iff]
                  refine ⟨⟨by omega⟩, ⟨by omega⟩, ⟨nat_fits hlt (by omega)⟩, ⟨k + 1, by omega, fun j hj => by rcases Nat.lt_succ_iff_lt_or_eq.1 hj with h3 | h3; exact hd j h3; rw [h3]; exact h2⟩, LeBy.le (pins := [0, 1, 2, 3, 4, 5, 6, 7, 8]) hp (l := [(0, .old 0), (1, .old 1), (2, .old 2), (3, .old 3), (4, .old 4), (5, .old 5), (6, .old 6), (7, .old 7), (8, .old 8), (9, .old 9), (10, .old 10)]) ?_, by show C - (k + 1) < C - k; omega⟩
                  cbv
                  simp only [implies_true, and_true, true_and, IX.v_lit, IX.v_nat, IX.v_sy, BX.v_lit, BX.v_sy, NX.v_lit, NX.v_sy, addN, in_true, eq_self, Nat.succ_eq_add_one, intD_eq, encInt_le, encText_le, encSpan_le, encPair_le, encBox_le, encNote_le, encSight_le, cell_i_le, Nat.add_zero, Int.toNat_natCast, Nat.lt_irrefl, if_false, and_self, ncast, imp_self, in_self, in_self2, in_and, Int.cast_ofNat_Int, in_and2, noT, noF]
                  refine ⟨fun e he => put1_le (fun h3 => ?_) fun h3 => ?_⟩
                  · show ((crsK n (k + 1) e : Nat) : Int) = 0
                    unfold crsK
                    rw [if_pos (by omega)]
                    rfl
                  · show ((crsK n (k + 1) e : Nat) : Int) = ((crsK n k e : Nat) : Int)
                    unfold crsK
                    by_cases h4 : e < k
                    · rw [if_pos h4, if_pos (by omega)]
                    · rw [if_neg h4, if_neg (by omega)]
              · obtain rfl : C = k := by omega
                have hN := dig_last hd hnC
                cbv
                refine ⟨⟨[.old 10], ?_⟩, ⟨[.old 10], ?_⟩⟩
                · cbv
                  simp only [implies_true, and_true, true_and, IX.v_lit, IX.v_nat, IX.v_sy, BX.v_lit, BX.v_sy, NX.v_lit, NX.v_sy, addN, in_true, eq_self, Nat.succ_eq_add_one, intD_eq, encInt_le, encText_le, encSpan_le, encPair_le, encBox_le, encNote_le, encSight_le, cell_i_le, Nat.add_zero, Int.toNat_natCast, Nat.lt_irrefl, if_false, and_self, ncast, imp_self, in_self, in_self2, in_and, Int.cast_ofNat_Int, in_and2, ltB_t, ltB_f, leB_t, leB_f, eqB_t, eqB_f, ltNB_t, ltNB_f, leNB_t, leNB_f, eqNB_t, eqNB_f, noT, noF, Bool.and_eq_true, Bool.or_eq_true, Bool.and_eq_false_iff, Bool.or_eq_false_iff]
                  rw [hC, ← hN]
                  exact ⟨⟨⟨rfl⟩, ⟨fun e he => closedL_le rfl⟩⟩, ⟨rfl⟩⟩
                · cbv
                  simp only [implies_true, and_true, true_and, IX.v_lit, IX.v_nat, IX.v_sy, BX.v_lit, BX.v_sy, NX.v_lit, NX.v_sy, addN, in_true, eq_self, Nat.succ_eq_add_one, intD_eq, encInt_le, encText_le, encSpan_le, encPair_le, encBox_le, encNote_le, encSight_le, cell_i_le, Nat.add_zero, Int.toNat_natCast, Nat.lt_irrefl, if_false, and_self, ncast, imp_self, in_self, in_self2, in_and, Int.cast_ofNat_Int, in_and2, ltB_t, ltB_f, leB_t, leB_f, eqB_t, eqB_f, ltNB_t, ltNB_f, leNB_t, leNB_f, eqNB_t, eqNB_f, noT, noF, Bool.and_eq_true, Bool.or_eq_true, Bool.and_eq_false_iff, Bool.or_eq_false_iff]
                  rw [hC, ← hN]
                  exact ⟨⟨⟨rfl⟩, ⟨fun e he => closedL_le rfl⟩⟩, ⟨rfl⟩⟩
      · have hno : tellOk st pl sk ss ns (crs C n) = false := hno
        have hnoN : okN st pl sk ss ns n = false := by unfold okN; rw [hC]; exact hno
        have ho3 : bestL st pl sk ss ns (n + 1) = bestL st pl sk ss ns n := by rw [bestL, hnoN]; rfl
        have ho4 : someK st pl sk ss ns (n + 1) = someK st pl sk ss ns n := by rw [someK, hnoN]; rfl
        cbv
        refine ⟨fun hh => absurd (hno.symm.trans hh) (by decide), ⟨fun hh => hh, fun _ => rfl⟩, fun hh => absurd (hno.symm.trans hh) (by decide), fun _ => ?_⟩
        cbv
        refine ⟨{k : Nat // k ≤ C ∧ ∀ j, j < k → dig n j = 2}, fun k => ⟨[(0, .lit true, .one (.c (.func (.yield l) #[] #[]))), (1, .lit true, .one (.ref 5)), (3, .lit true, .one (.ref 9)), (26, .lit true, .one (.ref 9)), (27, .lit true, cint .i64 (.nat (fun _ => C) 0)), (28, .lit true, cint .i64 (.nat (fun _ => k.1) 0))], [(0, sightRow .ro ss), (1, noteRow .ro ns), (2, .box true 27 [.i .i64 (.sy fun _ => st), .i .i64 (.sy fun _ => pl), .i .i64 (.sy fun _ => sk), .ref 0, .ref 1]), (3, .box true 28 [.ref 10]), (4, .box true 4 [.b (.sy fun _ => someK st pl sk ss ns (n + 1))]), (5, .box true 27 [.i .i64 (.sy fun _ => st), .i .i64 (.sy fun _ => pl), .i .i64 (.sy fun _ => sk), .ref 0, .ref 1]), (6, .clo (.func 153) [] [.ref 5]), (7, .obj (.deferred (some []))), (8, .obj (.loop r)), (9, kindRow C (crsK n k.1)), (10, intRowT 3 fun _ => bestL st pl sk ss ns (n + 1))], 11⟩, fun k => C - k.1, ⟨0, Nat.zero_le _, fun j hj => absurd hj (Nat.not_lt_zero j)⟩, LeBy.le (pins := [0, 1, 2, 3, 4, 5, 6, 7, 8]) hp (l := [(0, .old 0), (1, .old 1), (2, .old 2), (3, .old 3), (4, .old 4), (5, .old 5), (6, .old 6), (7, .old 7), (8, .old 8), (9, .old 9), (10, .old 10)]) ?_, fun k => ?_⟩
        · cbv
          simp only [implies_true, and_true, true_and, IX.v_lit, IX.v_nat, IX.v_sy, BX.v_lit, BX.v_sy, NX.v_lit, NX.v_sy, addN, in_true, eq_self, Nat.succ_eq_add_one, intD_eq, encInt_le, encText_le, encSpan_le, encPair_le, encBox_le, encNote_le, encSight_le, cell_i_le, Nat.add_zero, Int.toNat_natCast, Nat.lt_irrefl, if_false, and_self, ncast, imp_self, in_self, in_self2, in_and, Int.cast_ofNat_Int, in_and2, noT, noF]
          refine ⟨⟨⟨ho4⟩, ⟨⟨(crs_len C n).symm⟩, ⟨fun e he => ?_⟩⟩, ⟨by rw [ho3]⟩, ⟨fun e he => by rw [ho3]; exact closedL_le rfl⟩⟩, ⟨(crs_len C n).symm⟩⟩
          rw [show (fun x : PUnit => (crs C n).getD e 0) = fun _ => (dig n e : Int) from funext fun _ => crs_get (by rw [crs_len] at he; exact he)]
          exact int1_le (x := .sy fun _ => (dig n e : Int)) (by unfold crsK; rw [if_neg (Nat.not_lt_zero e)]; rfl)
        · obtain ⟨k, hk, hd⟩ := k
          cbv
          simp only [implies_true, and_true, true_and, IX.v_lit, IX.v_nat, IX.v_sy, BX.v_lit, BX.v_sy, NX.v_lit, NX.v_sy, addN, in_true, eq_self, Nat.succ_eq_add_one, intD_eq, encInt_le, encText_le, encSpan_le, encPair_le, encBox_le, encNote_le, encSight_le, cell_i_le, Nat.add_zero, Int.toNat_natCast, Nat.lt_irrefl, if_false, and_self, ncast, imp_self, in_self, in_self2, in_and, Int.cast_ofNat_Int, in_and2, ltB_t, ltB_f, leB_t, leB_f, eqB_t, eqB_f, ltNB_t, ltNB_f, leNB_t, leNB_f, eqNB_t, eqNB_f, noT, noF, Bool.and_eq_true, Bool.or_eq_true, Bool.and_eq_false_iff, Bool.or_eq_false_iff]
          refine ⟨fun hlt => ?_, fun hlt => ?_⟩
          · cbv
            simp only [implies_true, and_true, true_and, IX.v_lit, IX.v_nat, IX.v_sy, BX.v_lit, BX.v_sy, NX.v_lit, NX.v_sy, addN, in_true, eq_self, Nat.succ_eq_add_one, intD_eq, encInt_le, encText_le, encSpan_le, encPair_le, encBox_le, encNote_le, encSight_le, cell_i_le, Nat.add_zero, Int.toNat_natCast, Nat.lt_irrefl, if_false, and_self, ncast, imp_self, in_self, in_self2, in_and, Int.cast_ofNat_Int, in_and2, ltB_t, ltB_f, leB_t, leB_f, eqB_t, eqB_f, ltNB_t, ltNB_f, leNB_t, leNB_f, eqNB_t, eqNB_f, noT, noF, Bool.and_eq_true, Bool.or_eq_true, Bool.and_eq_false_iff, Bool.or_eq_false_iff]
            have hck : crsK n k k = dig n k := by unfold crsK; rw [if_neg (Nat.lt_irrefl k)]
            refine ⟨⟨by omega⟩, ⟨by omega⟩, fun h2 => ?_, fun h2 => ?_⟩
            · have h2 : dig n k < 2 := by (first | omega | (simp only [ncast] at *; omega))
              cbv
              simp only [implies_true, and_true, true_and, IX.v_lit, IX.v_nat, IX.v_sy, BX.v_lit, BX.v_sy, NX.v_lit, NX.v_sy, addN, in_true, eq_self, Nat.succ_eq_add_one, intD_eq, encInt_le, encText_le, encSpan_le, encPair_le, encBox_le, encNote_le, encSight_le, cell_i_le, Nat.add_zero, Int.toNat_natCast, Nat.lt_irrefl, if_false, and_self, ncast, imp_self, in_self, in_self2, in_and, Int.cast_ofNat_Int, in_and2, ltB_t, ltB_f, leB_t, leB_f, eqB_t, eqB_f, ltNB_t, ltNB_f, leNB_t, leNB_f, eqNB_t, eqNB_f, noT, noF, Bool.and_eq_true, Bool.or_eq_true, Bool.and_eq_false_iff, Bool.or_eq_false_iff]
              refine ⟨⟨by omega⟩, ⟨by omega⟩, ⟨by unfold fitsK; (first | omega | (simp only [ncast] at *; omega))⟩, ⟨by omega⟩, ⟨by omega⟩, ⟨n + 1, dig_more hlt h2 hnC⟩, LeBy.le (pins := [0, 1, 2, 3, 4, 5, 6, 7, 8]) hp (l := [(0, .old 0), (1, .old 1), (2, .old 2), (3, .old 3), (4, .old 4), (5, .old 5), (6, .old 6), (7, .old 7), (8, .old 8), (9, .old 9), (10, .old 10)]) ?_, by show 3 ^ C - (n + 1) < 3 ^ C - n; omega⟩
              cbv
              simp only [implies_true, and_true, true_and, IX.v_lit, IX.v_nat, IX.v_sy, BX.v_lit, BX.v_sy, NX.v_lit, NX.v_sy, addN, in_true, eq_self, Nat.succ_eq_add_one, intD_eq, encInt_le, encText_le, encSpan_le, encPair_le, encBox_le, encNote_le, encSight_le, cell_i_le, Nat.add_zero, Int.toNat_natCast, Nat.lt_irrefl, if_false, and_self, ncast, imp_self, in_self, in_self2, in_and, Int.cast_ofNat_Int, in_and2, noT, noF]
              refine ⟨⟨crs_len C (n + 1)⟩, ⟨fun e he => ?_⟩⟩
              rw [show (fun x : PUnit => (crs C (n + 1)).getD e 0) = fun _ => (dig (n + 1) e : Int) from funext fun _ => crs_get he]
              refine put1_le (z := .sy fun _ => (dig (n + 1) e : Int)) (fun h3 => ?_) fun h3 => ?_
              · subst h3
                show ((dig (n + 1) e : Nat) : Int) = ((crsK n e e + 1 : Nat) : Int)
                rw [hck, dig_next hd h2, if_neg (Nat.lt_irrefl e), if_pos rfl]
              · show ((dig (n + 1) e : Nat) : Int) = ((crsK n k e : Nat) : Int)
                rw [dig_next hd h2, if_neg h3]
                rfl
            · have h2 : dig n k = 2 := by have := dig_lt n k; (first | omega | (simp only [ncast] at *; omega))
              cbv
              simp only [implies_true, and_true, true_and, IX.v_lit, IX.v_nat, IX.v_sy, BX.v_lit, BX.v_sy, NX.v_lit, NX.v_sy, addN, in_true, eq_self, Nat.succ_eq_add_one, intD_eq, encInt_le, encText_le, encSpan_le, encPair_le, encBox_le, encNote_le, encSight_le, cell_i_le, Nat.add_zero, Int.toNat_natCast, Nat.lt_irrefl, if_false, and_self, ncast, imp_self, in_self, in_self2, in_and, Int.cast_ofNat_Int, in_and2, ltB_t, ltB_f, leB_t, leB_f, eqB_t, eqB_f, ltNB_t, ltNB_f, leNB_t, leNB_f, eqNB_t, eqNB_f, noT, noF, Bool.and_eq_true, Bool.or_eq_true, Bool.and_eq_false_iff, Bool.or_eq_false_iff]
              refine ⟨⟨by omega⟩, ⟨by omega⟩, ⟨nat_fits hlt (by omega)⟩, ⟨k + 1, by omega, fun j hj => by rcases Nat.lt_succ_iff_lt_or_eq.1 hj with h3 | h3; exact hd j h3; rw [h3]; exact h2⟩, LeBy.le (pins := [0, 1, 2, 3, 4, 5, 6, 7, 8]) hp (l := [(0, .old 0), (1, .old 1), (2, .old 2), (3, .old 3), (4, .old 4), (5, .old 5), (6, .old 6), (7, .old 7), (8, .old 8), (9, .old 9), (10, .old 10)]) ?_, by show C - (k + 1) < C - k; omega⟩
              cbv
              simp only [implies_true, and_true, true_and, IX.v_lit, IX.v_nat, IX.v_sy, BX.v_lit, BX.v_sy, NX.v_lit, NX.v_sy, addN, in_true, eq_self, Nat.succ_eq_add_one, intD_eq, encInt_le, encText_le, encSpan_le, encPair_le, encBox_le, encNote_le, encSight_le, cell_i_le, Nat.add_zero, Int.toNat_natCast, Nat.lt_irrefl, if_false, and_self, ncast, imp_self, in_self, in_self2, in_and, Int.cast_ofNat_Int, in_and2, noT, noF]
              refine ⟨fun e he => put1_le (fun h3 => ?_) fun h3 => ?_⟩
              · show ((crsK n (k + 1) e : Nat) : Int) = 0
                unfold crsK
                rw [if_pos (by omega)]
                rfl
              · show ((crsK n (k + 1) e : Nat) : Int) = ((crsK n k e : Nat) : Int)
                unfold crsK
                by_cases h4 : e < k
                · rw [if_pos h4, if_pos (by omega)]
                · rw [if_neg h4, if_neg (by omega)]
          · obtain rfl : C = k := by omega
            have hN := dig_last hd hnC
            cbv
            refine ⟨⟨[.old 10], ?_⟩, ⟨[.old 10], ?_⟩⟩
            · cbv
              simp only [implies_true, and_true, true_and, IX.v_lit, IX.v_nat, IX.v_sy, BX.v_lit, BX.v_sy, NX.v_lit, NX.v_sy, addN, in_true, eq_self, Nat.succ_eq_add_one, intD_eq, encInt_le, encText_le, encSpan_le, encPair_le, encBox_le, encNote_le, encSight_le, cell_i_le, Nat.add_zero, Int.toNat_natCast, Nat.lt_irrefl, if_false, and_self, ncast, imp_self, in_self, in_self2, in_and, Int.cast_ofNat_Int, in_and2, ltB_t, ltB_f, leB_t, leB_f, eqB_t, eqB_f, ltNB_t, ltNB_f, leNB_t, leNB_f, eqNB_t, eqNB_f, noT, noF, Bool.and_eq_true, Bool.or_eq_true, Bool.and_eq_false_iff, Bool.or_eq_false_iff]
              rw [hC, ← hN]
              exact ⟨⟨⟨rfl⟩, ⟨fun e he => closedL_le rfl⟩⟩, ⟨rfl⟩⟩
            · cbv
              simp only [implies_true, and_true, true_and, IX.v_lit, IX.v_nat, IX.v_sy, BX.v_lit, BX.v_sy, NX.v_lit, NX.v_sy, addN, in_true, eq_self, Nat.succ_eq_add_one, intD_eq, encInt_le, encText_le, encSpan_le, encPair_le, encBox_le, encNote_le, encSight_le, cell_i_le, Nat.add_zero, Int.toNat_natCast, Nat.lt_irrefl, if_false, and_self, ncast, imp_self, in_self, in_self2, in_and, Int.cast_ofNat_Int, in_and2, ltB_t, ltB_f, leB_t, leB_f, eqB_t, eqB_f, ltNB_t, ltNB_f, leNB_t, leNB_f, eqNB_t, eqNB_f, noT, noF, Bool.and_eq_true, Bool.or_eq_true, Bool.and_eq_false_iff, Bool.or_eq_false_iff]
              rw [hC, ← hN]
              exact ⟨⟨⟨rfl⟩, ⟨fun e he => closedL_le rfl⟩⟩, ⟨rfl⟩⟩
def spLeast91 : Spec := fun args M base => match args with
  | [.agg [.i .i64 st, .i .i64 pl, .i .i64 sk, c, d]] => ⟨In fun _ => okLife M c d ∧ RunOk st.val pl.val sk.val (sights M c) (notes M d), .tup [.one (.ref base), .one (.b (.sy fun _ => someK st.val pl.val sk.val (sights M c) (notes M d) (3 ^ ((sights M c).length - 1))))], [intRowT 3 fun _ => bestL st.val pl.val sk.val (sights M c) (notes M d) (3 ^ ((sights M c).length - 1))], [], (seen M c).reads ++ (seen M d).reads⟩
  | _ => bad
theorem congrLeast91 : spLeast91.Congr := by
  intro args M M' base hs h
  unfold spLeast91 at *
  split at hs
  · simp only [okLife, okSights, okNotes, sights, notes] at h ⊢
    rw [seen_congr (M := M) (M' := M') (fun i hi => h i (List.mem_append_left _ hi)), seen_congr (M := M) (M' := M') (fun i hi => h i (List.mem_append_right _ hi))]
  · exact hs.elim
theorem okLeast91 : SpecOk F0 Tryz.prog 91 spLeast91 := by
  refine spec_genM 7 (fn := Tryz.f91) (c := fbody Tryz.f91) (by kernel_rfl) rfl rfl (by kernel_rfl) congrLeast91 fun args M base hs => ?_
  unfold spLeast91 at hs ⊢
  split at hs
  · rename_i st pl sk c d
    exact ⟨[], fun r => Nat.beq r 3, [.agg [.i .i64 (.sy fun _ => st.val), .i .i64 (.sy fun _ => pl.val), .i .i64 (.sy fun _ => sk.val), .ref 0, .ref 1]], [sightRow .ro (sights M c), noteRow .ro (notes M d)], fun base => .tup [.one (.ref base), .one (.b (.sy fun _ => someK st.val pl.val sk.val (sights M c) (notes M d) (3 ^ ((sights M c).length - 1))))], fun _ => [intRowT 3 fun _ => bestL st.val pl.val sk.val (sights M c) (notes M d) (3 ^ ((sights M c).length - 1))], trivial, Nat.le_of_ble_eq_true rfl, ⟨rfl, trivial⟩, .val rfl (.val rfl (.val rfl (.row (sight_from hs.ok.1.1) (.row (note_from hs.ok.1.2.1) .nil)))), rfl, rfl, rfl, ⟨tauN_at (t := 0) (Nat.zero_lt_one : 0 < 1), ⟨rfl⟩, trivial⟩, ⟨rowOf_le intCod .own _ _, trivial⟩, own1 rfl, least_vc hs.ok.2⟩
  · exact hs.elim
end Go.Proofs.YthgllnnlngihoaaGreat.Sx
end
