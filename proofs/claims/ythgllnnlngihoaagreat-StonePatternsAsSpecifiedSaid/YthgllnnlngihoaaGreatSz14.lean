/- extents. (Printed by genr2.py.); Least. -/
import Derived.Test.YthgllnnlngihoaaGreatSz13
section
set_option linter.unusedVariables false
set_option linter.unusedSimpArgs false
set_option maxRecDepth 100000
namespace Go.Proofs.YthgllnnlngihoaaGreat.Sx
open Go.RowKit

section
variable (st pl sk : Int) (ss : List SightD) (ns : List NoteD) (most : Int)
def coverD (a b : BoxD) : BoxD := ⟨bif bothB a.x0 a.x1 a.y0 a.y1 b.x0 b.x1 b.y0 b.y1 then min a.x0 b.x0 else 0, bif bothB a.x0 a.x1 a.y0 a.y1 b.x0 b.x1 b.y0 b.y1 then max a.x1 b.x1 else 0, bif bothB a.x0 a.x1 a.y0 a.y1 b.x0 b.x1 b.y0 b.y1 then min a.y0 b.y0 else 0, bif bothB a.x0 a.x1 a.y0 a.y1 b.x0 b.x1 b.y0 b.y1 then max a.y1 b.y1 else 0⟩
def coverL (xs ys : List BoxD) : List BoxD := (List.range xs.length).map fun k => coverD (xs.getD k boxD) (ys.getD k boxD)
def takeN (n : Nat) : Bool := okN st pl sk ss ns n && decide ((changesN (crs (ss.length - 1) n) : Int) ≤ most)
def anyE : Nat → Bool
  | 0 => false
  | n + 1 => takeN st pl sk ss ns most n || anyE n
def extB : Nat → List BoxD
  | 0 => []
  | n + 1 => bif takeN st pl sk ss ns most n then (bif anyE st pl sk ss ns most n then coverL (extB n) (tellB st pl sk ss ns (crs (ss.length - 1) n)) else tellB st pl sk ss ns (crs (ss.length - 1) n)) else extB n
def covRow (L : Nat) (f : Nat → BoxD) : Ob := .row .own 62 4 (.sy (fun _ => L) 0) fun e => encBox fun _ => f e
def extR : Bool → IV
  | true => .one (.ref 0)
  | false => .one (.c (.slice none 0 0))
def extNews : Bool → List Ob
  | true => [boxRowT fun _ => extB st pl sk ss ns most (3 ^ (ss.length - 1))]
  | false => []
def covJ (n j e : Nat) : BoxD := if e < j then coverD ((extB st pl sk ss ns most n).getD e boxD) ((tellB st pl sk ss ns (crs (ss.length - 1) n)).getD e boxD) else (extB st pl sk ss ns most n).getD e boxD
end
theorem tellB_len {st pl sk : Int} {ss : List SightD} {ns : List NoteD} {cs : List Int} (h : tellOk st pl sk ss ns cs = true) : (tellB st pl sk ss ns cs).length = ss.length := by
  unfold tellB
  rw [h]
  simp
theorem extB_len {st pl sk : Int} {ss : List SightD} {ns : List NoteD} {most : Int} (n : Nat) : anyE st pl sk ss ns most n = true → (extB st pl sk ss ns most n).length = ss.length := by
  induction n with
  | zero => intro h; cases h
  | succ n ih =>
    intro h
    rw [extB]
    cases ht : takeN st pl sk ss ns most n with
    | true =>
      have ht' : tellOk st pl sk ss ns (crs (ss.length - 1) n) = true := by
        unfold takeN okN at ht
        rw [Bool.and_eq_true] at ht
        exact ht.1
      cases ha : anyE st pl sk ss ns most n with
      | true => show (coverL _ _).length = _; unfold coverL; rw [List.length_map, List.length_range]; exact ih ha
      | false => exact tellB_len ht'
    | false =>
      rw [anyE, ht] at h
      exact ih h
theorem boxs_at (bs : List BoxD) (M : Mem) (c : CV) {r : List Nat} (h : seen M c = ⟨True, .sy (fun _ => bs.length) 0, 4, fun e => encBox fun _ => bs.getD e boxD, r⟩) : okBoxs M c ∧ boxs M c = bs := by
  unfold okBoxs boxs
  rw [h]
  exact ⟨box_ok bs r, box_row bs True 4 r⟩
theorem put_le {τ : Nat → Option Src} {e j : Nat} {x y z : List CV} (h1 : e = j → All2 (CvLe τ) x z) (h2 : e ≠ j → All2 (CvLe τ) y z) : All2 (CvLe τ) (if e = j then x else y) z := by
  by_cases h : e = j
  · rw [if_pos h]; exact h1 h
  · rw [if_neg h]; exact h2 h
theorem box4_le {τ : Nat → Option Src} {f0 f1 f2 f3 : Unit → Int} {g : Unit → BoxD} (h0 : (g ()).x0 = f0 ()) (h1 : (g ()).x1 = f1 ()) (h2 : (g ()).y0 = f2 ()) (h3 : (g ()).y1 = f3 ()) : All2 (CvLe τ) [.i .i64 (.sy f0), .i .i64 (.sy f1), .i .i64 (.sy f2), .i .i64 (.sy f3)] (encBox g) :=
  ⟨⟨isT_iff.2 rfl, ⟨h0⟩⟩, ⟨isT_iff.2 rfl, ⟨h1⟩⟩, ⟨isT_iff.2 rfl, ⟨h2⟩⟩, ⟨isT_iff.2 rfl, ⟨h3⟩⟩, trivial⟩
noncomputable def extEn : En := enP [] (fun r => Nat.beq r 2) pts87
theorem ext_vc {st pl sk : Int} {ss : List SightD} {ns : List NoteD} {most : Int} (hR : RunOk st pl sk ss ns) (b : Bool) (hb : anyE st pl sk ss ns most (3 ^ (ss.length - 1)) = b) (B : Nat) :
    vc extEn ⟨fun _ => none, B, fun _ => False, Tryz.f103.ntmps, some 7⟩ (fbody Tryz.f103) (start [.agg [.i .i64 (.sy fun _ => st), .i .i64 (.sy fun _ => pl), .i .i64 (.sy fun _ => sk), .ref 0, .ref 1], .one (.i .i64 (.sy fun _ => most))] [sightRow .ro ss, noteRow .ro ns])
      fun x s => isRet x ∧ markP tab Tryz.f103.results.toList 7 (fun s => ∃ js, FinBy tab Tryz.f103.results.toList js s (extR b) (extNews st pl sk ss ns most b)) s := by
  have hn := hR.pos
  have hn9 := hR.few
  have hns := hR.notes
  cbv
  refine ⟨[0, 1, 2, 3, 4, 7], fun π hπ1 hπ2 => ?_⟩
  unfold pt87 ptFn
  refine ⟨Nat.le_of_ble_eq_true rfl, ?_⟩
  cbv
  simp only [implies_true, and_true, true_and, IX.v_lit, IX.v_nat, IX.v_sy, BX.v_lit, BX.v_sy, NX.v_lit, NX.v_sy, addN, in_true, eq_self, Nat.succ_eq_add_one, intD_eq, encInt_le, encText_le, encSpan_le, encPair_le, encBox_le, encNote_le, encSight_le, cell_i_le, Nat.add_zero, Int.toNat_natCast, Nat.lt_irrefl, if_false, and_self, ncast, imp_self, in_self, in_self2, in_and, Int.cast_ofNat_Int, in_and2, noT, noF]
  refine ⟨fun i hi => by cases hi; rfl, ?_⟩
  cbv
  try simp only [implies_true, and_true, true_and, IX.v_lit, IX.v_nat, IX.v_sy, BX.v_lit, BX.v_sy, NX.v_lit, NX.v_sy, addN, in_true, eq_self, Nat.succ_eq_add_one, intD_eq, encInt_le, encText_le, encSpan_le, encPair_le, encBox_le, encNote_le, encSight_le, cell_i_le, Nat.add_zero, Int.toNat_natCast, Nat.lt_irrefl, if_false, and_self, ncast, imp_self, in_self, in_self2, in_and, Int.cast_ofNat_Int, in_and2, noT, noF]
  refine ⟨rangeFunc_tri (e := extEn) (enP_ok (l := []) trivial pts87_ok) rfl [0, 1, 2, 3, 4, 5, 6] rfl trivial fun l r π hr1 hr2 hr3 hr4 hr5 hr6 hπ3 hπ4 hπ5 hσ => ?_⟩
  refine ⟨153, _, pt153 l (ptEx fun q : Nat => ptYield (enB [(90, spCh 9 q 0), (155, spCloneBox), (49, spCover)] l) l 8 r π _ 47 [11, 12] _ _), rfl, pt153_ok (ptEx_ok fun q => ptYield_ok (enB_ok (l := [(90, spCh 9 q 0), (155, spCloneBox), (49, spCover)]) ⟨okCh 9 q 0, okCloneBox, okCover, trivial⟩ l) rfl hr1 hr2 (by rw [hr3]) hr4 hr5 hr6 hπ5 (fun σ hh => hσ σ hh) (by decide) (by kernel_rfl) (by kernel_rfl) fun _ => trivial), ?_⟩
  · unfold pt153 ptFn
    refine ⟨Nat.le_of_ble_eq_true rfl, ?_⟩
    have hp : ∀ i u, π i = some u → i ∈ [0, 1, 2, 3, 4, 5, 6, 7, 8] := fun i u hu => by
      rcases hπ3 i u hu with h1 | ⟨v, h1⟩
      · have := inL_mem h1
        simp only [List.mem_cons, List.not_mem_nil, or_false] at this ⊢
        omega
      · cases h1
    clear hr4 hr5 hσ hπ3 hπ4 hπ5
    cbv
    simp only [implies_true, and_true, true_and, IX.v_lit, IX.v_nat, IX.v_sy, BX.v_lit, BX.v_sy, NX.v_lit, NX.v_sy, addN, in_true, eq_self, Nat.succ_eq_add_one, intD_eq, encInt_le, encText_le, encSpan_le, encPair_le, encBox_le, encNote_le, encSight_le, cell_i_le, Nat.add_zero, Int.toNat_natCast, Nat.lt_irrefl, if_false, and_self, ncast, imp_self, in_self, in_self2, in_and, Int.cast_ofNat_Int, in_and2, noT, noF]
    obtain ⟨C, hC⟩ : ∃ C, ss.length - 1 = C := ⟨_, rfl⟩
    obtain ⟨L, hLn⟩ : ∃ L, ss.length = L := ⟨_, rfl⟩
    refine ⟨⟨by rfl⟩, ⟨by unfold fitsK; omega⟩, ⟨⟨by omega⟩, ⟨by omega, by omega⟩⟩, {n : Nat // n < 3 ^ C ∧ anyE st pl sk ss ns most n = false} ⊕ {n : Nat // n < 3 ^ C ∧ anyE st pl sk ss ns most n = true}, Sum.elim (fun i => ⟨[(0, .lit true, .one (.c (.func (.yield l) #[] #[]))), (1, .lit true, .one (.ref 5)), (3, .lit true, .one (.ref 9))], [(0, sightRow .ro ss), (1, noteRow .ro ns), (2, .box true 27 [.i .i64 (.sy fun _ => st), .i .i64 (.sy fun _ => pl), .i .i64 (.sy fun _ => sk), .ref 0, .ref 1]), (3, .box true 3 [.i .i64 (.sy fun _ => most)]), (4, .box true 34 [.c (.slice none 0 0)]), (5, .box true 27 [.i .i64 (.sy fun _ => st), .i .i64 (.sy fun _ => pl), .i .i64 (.sy fun _ => sk), .ref 0, .ref 1]), (6, .clo (.func 153) [] [.ref 5]), (7, .obj (.deferred (some []))), (8, .obj (.loop r)), (9, intRowT 3 fun _ => crs C i.1)], 10⟩) (fun i => ⟨[(0, .lit true, .one (.c (.func (.yield l) #[] #[]))), (1, .lit true, .one (.ref 5)), (3, .lit true, .one (.ref 9))], [(0, sightRow .ro ss), (1, noteRow .ro ns), (2, .box true 27 [.i .i64 (.sy fun _ => st), .i .i64 (.sy fun _ => pl), .i .i64 (.sy fun _ => sk), .ref 0, .ref 1]), (3, .box true 3 [.i .i64 (.sy fun _ => most)]), (4, .box true 34 [.ref 10]), (5, .box true 27 [.i .i64 (.sy fun _ => st), .i .i64 (.sy fun _ => pl), .i .i64 (.sy fun _ => sk), .ref 0, .ref 1]), (6, .clo (.func 153) [] [.ref 5]), (7, .obj (.deferred (some []))), (8, .obj (.loop r)), (9, intRowT 3 fun _ => crs C i.1), (10, boxRowT fun _ => extB st pl sk ss ns most i.1)], 11⟩), Sum.elim (fun i => 3 ^ C - i.1) (fun i => 3 ^ C - i.1), .inl ⟨0, pow3_pos _, rfl⟩, LeBy.le (pins := [0, 1, 2, 3, 4, 5, 6, 7, 8]) hp (l := [(0, .old 0), (1, .old 1), (2, .old 2), (3, .old 3), (4, .old 4), (5, .old 5), (6, .old 6), (7, .old 7), (8, .old 8), (9, .old 9)]) ?_, fun i => ?_⟩
    · cbv
      simp only [implies_true, and_true, true_and, IX.v_lit, IX.v_nat, IX.v_sy, BX.v_lit, BX.v_sy, NX.v_lit, NX.v_sy, addN, in_true, eq_self, Nat.succ_eq_add_one, intD_eq, encInt_le, encText_le, encSpan_le, encPair_le, encBox_le, encNote_le, encSight_le, cell_i_le, Nat.add_zero, Int.toNat_natCast, Nat.lt_irrefl, if_false, and_self, ncast, imp_self, in_self, in_self2, in_and, Int.cast_ofNat_Int, in_and2, noT, noF]
      refine ⟨⟨by rw [crs_len]; omega⟩, ⟨fun e he => ?_⟩⟩
      rw [show (fun x : PUnit => (crs C 0).getD e 0) = fun _ => 0 from funext fun _ => by rw [crs_get (by omega), dig_zero]; rfl]
      exact int1_le (x := .lit 0) (y := .sy fun _ => 0) rfl
    · rcases i with ⟨n, hnC, hany⟩ | ⟨n, hnC, hany⟩
      · cbv
        simp only [implies_true, and_true, true_and, IX.v_lit, IX.v_nat, IX.v_sy, BX.v_lit, BX.v_sy, NX.v_lit, NX.v_sy, addN, in_true, eq_self, Nat.succ_eq_add_one, intD_eq, encInt_le, encText_le, encSpan_le, encPair_le, encBox_le, encNote_le, encSight_le, cell_i_le, Nat.add_zero, Int.toNat_natCast, Nat.lt_irrefl, if_false, and_self, ncast, imp_self, in_self, in_self2, in_and, Int.cast_ofNat_Int, in_and2, noT, noF]
        refine ⟨⟨tell_side rfl rfl rfl (by omega) (by rw [← hC]; exact run_thru hR n)⟩, ?_⟩
        simp only [in_true, eq_self, and_true, true_and, ints, texts, spans, pairs, boxs, notes, sights, seen, lget, reduceIte, Nat.reduceEqDiff, reduceCtorEq, Nat.succ_ne_self, Nat.zero_ne_one, Nat.one_ne_zero, int_row0, int_row, text_row, span_row, pair_row, box_row, note_row, sight_row]
        refine ⟨fun hok => ?_, fun hno => ?_⟩
        · have hok : tellOk st pl sk ss ns (crs C n) = true := hok
          have hokN : okN st pl sk ss ns n = true := by unfold okN; rw [hC]; exact hok
          refine ⟨?_, [0, 1, 2, 3, 4, 5, 6, 7, 8, 9], fun π2 hπa hπb => ?_⟩
          · cbv
            exact ⟨⟨hok⟩, ⟨hok⟩, ⟨hok⟩, trivial⟩
          · obtain ⟨m, hm⟩ : ∃ m, changesN (crs C n) = m := ⟨_, rfl⟩
            refine ⟨m, ?_⟩
            show ptYield _ _ _ _ _ _ _ _ _ _ _ _ _ _ _
            unfold ptYield
            refine ⟨hπb, rfl, rfl, ?_⟩
            have hp2 : ∀ i u, π2 i = some u → i ∈ [0, 1, 2, 3, 4, 5, 6, 7, 8, 9] := fun i u hu => by
              rcases hπa i u hu with h1 | ⟨v, h1⟩
              · exact inL_mem h1
              · have := hp i v h1
                simp only [List.mem_cons, List.not_mem_nil, or_false] at this ⊢
                omega
            have hcl := crs_len C n
            cbv
            refine ⟨⟨⟨(ints_at (crs C n) _ _ rfl).1, by rw [(ints_at (crs C n) _ _ rfl).2]; omega⟩, by rw [(ints_at (crs C n) _ _ rfl).2]; exact hm⟩, ?_⟩
            refine ⟨fun h1 => ?_, fun h1 => ?_⟩
            · have h1 : most < (m : Int) := ltB_t.mp h1
              have htk : takeN st pl sk ss ns most n = false := by unfold takeN; rw [hC, hm, decide_eq_false (by omega), Bool.and_false]
              have hany1 : anyE st pl sk ss ns most (n + 1) = false := by rw [anyE, htk, hany]; rfl
              cbv
              refine ⟨fun i hi => hi.elim, fun _ => trivial, ⟨fun _ => hok, fun _ => rfl⟩, ?_⟩
              refine ⟨{k : Nat // k ≤ C ∧ ∀ j, j < k → dig n j = 2}, fun k => ⟨[(0, .lit true, .one (.c (.func (.yield l) #[] #[]))), (1, .lit true, .one (.ref 5)), (3, .lit true, .one (.ref 9)), (26, .lit true, .one (.ref 9)), (27, .lit true, cint .i64 (.nat (fun _ => C) 0)), (28, .lit true, cint .i64 (.nat (fun _ => k.1) 0))], [(0, sightRow .ro ss), (1, noteRow .ro ns), (2, .box true 27 [.i .i64 (.sy fun _ => st), .i .i64 (.sy fun _ => pl), .i .i64 (.sy fun _ => sk), .ref 0, .ref 1]), (3, .box true 3 [.i .i64 (.sy fun _ => most)]), (4, .box true 34 [.c (.slice none 0 0)]), (5, .box true 27 [.i .i64 (.sy fun _ => st), .i .i64 (.sy fun _ => pl), .i .i64 (.sy fun _ => sk), .ref 0, .ref 1]), (6, .clo (.func 153) [] [.ref 5]), (7, .obj (.deferred (some []))), (8, .obj (.loop r)), (9, kindRow C (crsK n k.1))], 10⟩, fun k => C - k.1, ⟨0, Nat.zero_le _, fun j hj => absurd hj (Nat.not_lt_zero j)⟩, LeBy.le (pins := [0, 1, 2, 3, 4, 5, 6, 7, 8]) hp (l := [(0, .old 0), (1, .old 1), (2, .old 2), (3, .old 3), (4, .old 4), (5, .old 5), (6, .old 6), (7, .old 7), (8, .old 8), (9, .old 9)]) ?_, fun k => ?_⟩
              · cbv
                simp only [implies_true, and_true, true_and, IX.v_lit, IX.v_nat, IX.v_sy, BX.v_lit, BX.v_sy, NX.v_lit, NX.v_sy, addN, in_true, eq_self, Nat.succ_eq_add_one, intD_eq, encInt_le, encText_le, encSpan_le, encPair_le, encBox_le, encNote_le, encSight_le, cell_i_le, Nat.add_zero, Int.toNat_natCast, Nat.lt_irrefl, if_false, and_self, ncast, imp_self, in_self, in_self2, in_and, Int.cast_ofNat_Int, in_and2, noT, noF]
                refine ⟨⟨⟨(crs_len C n).symm⟩, ⟨fun e he => ?_⟩⟩, ⟨(crs_len C n).symm⟩⟩
                rw [show (fun x : PUnit => (crs C n).getD e 0) = fun _ => (dig n e : Int) from funext fun _ => crs_get (by rw [crs_len] at he; exact he)]
                exact int1_le (x := .sy fun _ => (dig n e : Int)) (by unfold crsK; rw [if_neg (Nat.not_lt_zero e)]; rfl)
              · obtain ⟨k, hk, hd⟩ := k
                cbv
                simp only [implies_true, and_true, true_and, IX.v_lit, IX.v_nat, IX.v_sy, BX.v_lit, BX.v_sy, NX.v_lit, NX.v_sy, addN, in_true, eq_self, Nat.succ_eq_add_one, intD_eq, encInt_le, encText_le, encSpan_le, encPair_le, encBox_le, encNote_le, encSight_le, cell_i_le, Nat.add_zero, Int.toNat_natCast, Nat.lt_irrefl, if_false, and_self, ncast, imp_self, in_self, in_self2, in_and, Int.cast_ofNat_Int, in_and2, ltB_t, ltB_f, leB_t, leB_f, eqB_t, eqB_f, ltNB_t, ltNB_f, leNB_t, leNB_f, eqNB_t, eqNB_f, noT, noF, Bool.and_eq_true, Bool.or_eq_true, Bool.and_eq_false_iff, Bool.or_eq_false_iff]
                refine ⟨fun hlt => ?_, fun hlt => ?_⟩
                · cbv
                  simp only [implies_true, and_true, true_and, IX.v_lit, IX.v_nat, IX.v_sy, BX.v_lit, BX.v_sy, NX.v_lit, NX.v_sy, addN, in_true, eq_self, Nat.succ_eq_add_one, intD_eq, encInt_le, encText_le, encSpan_le, encPair_le, encBox_le, encNote_le, encSight_le, cell_i_le, Nat.add_zero, Int.toNat_natCast, Nat.lt_irrefl, if_false, and_self, ncast, imp_self, in_self, in_self2, in_and, Int.cast_ofNat_Int, in_and2, ltB_t, ltB_f, leB_t, leB_f, eqB_t, eqB_f, ltNB_t, ltNB_f, leNB_t, leNB_f, eqNB_t, eqNB_f, noT, noF, Bool.and_eq_true, Bool.or_eq_true, Bool.and_eq_false_iff, Bool.or_eq_false_iff]
                  have hck : crsK n k k = dig n k := by unfold crsK; rw [if_neg (Nat.lt_irrefl k)]
                  refine ⟨⟨by omega⟩, ⟨by omega⟩, fun h2 => ?_, fun h2 => ?_⟩
                  · have h2 : dig n k < 2 := by (first | omega | (simp only [ncast] at *; omega))
                    cbv
                    simp only [implies_true, and_true, true_and, IX.v_lit, IX.v_nat, IX.v_sy, BX.v_lit, BX.v_sy, NX.v_lit, NX.v_sy, addN, in_true, eq_self, Nat.succ_eq_add_one, intD_eq, encInt_le, encText_le, encSpan_le, encPair_le, encBox_le, encNote_le, encSight_le, cell_i_le, Nat.add_zero, Int.toNat_natCast, Nat.lt_irrefl, if_false, and_self, ncast, imp_self, in_self, in_self2, in_and, Int.cast_ofNat_Int, in_and2, ltB_t, ltB_f, leB_t, leB_f, eqB_t, eqB_f, ltNB_t, ltNB_f, leNB_t, leNB_f, eqNB_t, eqNB_f, noT, noF, Bool.and_eq_true, Bool.or_eq_true, Bool.and_eq_false_iff, Bool.or_eq_false_iff]
                    refine ⟨⟨by omega⟩, ⟨by omega⟩, ⟨by unfold fitsK; (first | omega | (simp only [ncast] at *; omega))⟩, ⟨by omega⟩, ⟨by omega⟩, .inl ⟨n + 1, dig_more hlt h2 hnC, hany1⟩, LeBy.le (pins := [0, 1, 2, 3, 4, 5, 6, 7, 8]) hp (l := [(0, .old 0), (1, .old 1), (2, .old 2), (3, .old 3), (4, .old 4), (5, .old 5), (6, .old 6), (7, .old 7), (8, .old 8), (9, .old 9)]) ?_, by show 3 ^ C - (n + 1) < 3 ^ C - n; omega⟩
                    cbv
                    simp only [implies_true, and_true, true_and, IX.v_lit, IX.v_nat, IX.v_sy, BX.v_lit, BX.v_sy, NX.v_lit, NX.v_sy, addN, in_true, eq_self, Nat.succ_eq_add_one, intD_eq, encInt_le, encText_le, encSpan_le, encPair_le, encBox_le, encNote_le, encSight_le, cell_i_le, Nat.add_zero, Int.toNat_natCast, Nat.lt_irrefl, if_false, and_self, ncast, imp_self, in_self, in_self2, in_and, Int.cast_ofNat_Int, in_and2, noT, noF]
                    refine ⟨⟨crs_len C (n + 1)⟩, ⟨fun e he => ?_⟩⟩
                    rw [show (fun x : PUnit => (crs C (n + 1)).getD e 0) = fun _ => (dig (n + 1) e : Int) from funext fun _ => crs_get he]
                    refine put1_le (z := .sy fun _ => (dig (n + 1) e : Int)) (fun h3 => ?_) fun h3 => ?_
                    · subst h3
                      show ((dig (n + 1) e : Nat) : Int) = ((crsK n e e + 1 : Nat) : Int)
                      rw [hck, dig_next hd h2, if_neg (Nat.lt_irrefl e), if_pos rfl]
                    · show ((dig (n + 1) e : Nat) : Int) = ((crsK n k e : Nat) : Int)
                      rw [dig_next hd h2, if_neg h3]
                      rfl
                  · have h2 : dig n k = 2 := by have := dig_lt n k; (first | omega | (simp only [ncast] at *; omega))
                    cbv
                    simp only [implies_true, and_true, true_and, IX.v_lit, IX.v_nat, IX.v_sy, BX.v_lit, BX.v_sy, NX.v_lit, NX.v_sy, addN, in_true, eq_self, Nat.succ_eq_add_one, intD_eq, encInt_le, encText_le, encSpan_le, encPair_le, encBox_le, encNote_le, encSight_le, cell_i_le, Nat.add_zero, Int.toNat_natCast, Nat.lt_irrefl, if_false, and_self, ncast, imp_self, in_self, in_self2, in_and, Int.cast_ofNat_Int, in_and2, ltB_t, ltB_f, leB_t, leB_f, eqB_t, eqB_f, ltNB_t, ltNB_f, leNB_t, leNB_f, eqNB_t, eqNB_f, noT, noF, Bool.and_eq_true, Bool.or_eq_true, Bool.and_eq_false_iff, Bool.or_eq_false_iff]
                    refine ⟨⟨by omega⟩, ⟨by omega⟩, ⟨nat_fits hlt (by omega)⟩, ⟨k + 1, by omega, fun j hj => by rcases Nat.lt_succ_iff_lt_or_eq.1 hj with h3 | h3; exact hd j h3; rw [h3]; exact h2⟩, LeBy.le (pins := [0, 1, 2, 3, 4, 5, 6, 7, 8]) hp (l := [(0, .old 0), (1, .old 1), (2, .old 2), (3, .old 3), (4, .old 4), (5, .old 5), (6, .old 6), (7, .old 7), (8, .old 8), (9, .old 9)]) ?_, by show C - (k + 1) < C - k; omega⟩
                    cbv
                    simp only [implies_true, and_true, true_and, IX.v_lit, IX.v_nat, IX.v_sy, BX.v_lit, BX.v_sy, NX.v_lit, NX.v_sy, addN, in_true, eq_self, Nat.succ_eq_add_one, intD_eq, encInt_le, encText_le, encSpan_le, encPair_le, encBox_le, encNote_le, encSight_le, cell_i_le, Nat.add_zero, Int.toNat_natCast, Nat.lt_irrefl, if_false, and_self, ncast, imp_self, in_self, in_self2, in_and, Int.cast_ofNat_Int, in_and2, noT, noF]
                    refine ⟨fun e he => put1_le (fun h3 => ?_) fun h3 => ?_⟩
                    · show ((crsK n (k + 1) e : Nat) : Int) = 0
                      unfold crsK
                      rw [if_pos (by omega)]
                      rfl
                    · show ((crsK n (k + 1) e : Nat) : Int) = ((crsK n k e : Nat) : Int)
                      unfold crsK
                      by_cases h4 : e < k
                      · rw [if_pos h4, if_pos (by omega)]
                      · rw [if_neg h4, if_neg (by omega)]
                · obtain rfl : C = k := by omega
                  have hN := dig_last hd hnC
                  cbv
                  have hbf : b = false := by rw [← hb, hC, ← hN]; exact hany1
                  subst hbf
                  refine ⟨⟨[], ?_⟩, ⟨[], ?_⟩⟩
                  · cbv
                  · cbv
            · have h1 : (m : Int) ≤ most := ltB_f.mp h1
              have htk : takeN st pl sk ss ns most n = true := by unfold takeN; rw [hokN, hC, hm, decide_eq_true h1]; rfl
              have hany1 : anyE st pl sk ss ns most (n + 1) = true := by rw [anyE, htk]; rfl
              have he1 : extB st pl sk ss ns most (n + 1) = tellB st pl sk ss ns (crs C n) := by rw [extB, htk, hany, hC]; rfl
              have htl := tellB_len hok
              cbv
              refine ⟨⟨(boxs_at (tellB st pl sk ss ns (crs C n)) _ _ rfl).1, by rw [(boxs_at (tellB st pl sk ss ns (crs C n)) _ _ rfl).2, htl]; omega, by rw [(boxs_at (tellB st pl sk ss ns (crs C n)) _ _ rfl).2, htl]; omega⟩, ?_⟩
              simp only [in_true, eq_self, and_true, true_and, ints, texts, spans, pairs, boxs, notes, sights, seen, lget, reduceIte, Nat.reduceEqDiff, reduceCtorEq, Nat.succ_ne_self, Nat.zero_ne_one, Nat.one_ne_zero, int_row0, int_row, text_row, span_row, pair_row, box_row, note_row, sight_row]
              refine ⟨fun i hi => hi.elim, fun _ => trivial, ⟨fun _ => hok, fun _ => rfl⟩, ?_⟩
              refine ⟨{k : Nat // k ≤ C ∧ ∀ j, j < k → dig n j = 2}, fun k => ⟨[(0, .lit true, .one (.c (.func (.yield l) #[] #[]))), (1, .lit true, .one (.ref 5)), (3, .lit true, .one (.ref 9)), (26, .lit true, .one (.ref 9)), (27, .lit true, cint .i64 (.nat (fun _ => C) 0)), (28, .lit true, cint .i64 (.nat (fun _ => k.1) 0))], [(0, sightRow .ro ss), (1, noteRow .ro ns), (2, .box true 27 [.i .i64 (.sy fun _ => st), .i .i64 (.sy fun _ => pl), .i .i64 (.sy fun _ => sk), .ref 0, .ref 1]), (3, .box true 3 [.i .i64 (.sy fun _ => most)]), (4, .box true 34 [.ref 10]), (5, .box true 27 [.i .i64 (.sy fun _ => st), .i .i64 (.sy fun _ => pl), .i .i64 (.sy fun _ => sk), .ref 0, .ref 1]), (6, .clo (.func 153) [] [.ref 5]), (7, .obj (.deferred (some []))), (8, .obj (.loop r)), (9, kindRow C (crsK n k.1)), (10, boxRowT fun _ => extB st pl sk ss ns most (n + 1))], 11⟩, fun k => C - k.1, ⟨0, Nat.zero_le _, fun j hj => absurd hj (Nat.not_lt_zero j)⟩, LeBy.le (pins := [0, 1, 2, 3, 4, 5, 6, 7, 8]) hp (l := [(0, .old 0), (1, .old 1), (2, .old 2), (3, .old 3), (4, .old 4), (5, .old 5), (6, .old 6), (7, .old 7), (8, .old 8), (9, .old 9), (10, .old 15)]) ?_, fun k => ?_⟩
              · cbv
                simp only [implies_true, and_true, true_and, IX.v_lit, IX.v_nat, IX.v_sy, BX.v_lit, BX.v_sy, NX.v_lit, NX.v_sy, addN, in_true, eq_self, Nat.succ_eq_add_one, intD_eq, encInt_le, encText_le, encSpan_le, encPair_le, encBox_le, encNote_le, encSight_le, cell_i_le, Nat.add_zero, Int.toNat_natCast, Nat.lt_irrefl, if_false, and_self, ncast, imp_self, in_self, in_self2, in_and, Int.cast_ofNat_Int, in_and2, noT, noF]
                refine ⟨⟨⟨⟨(crs_len C n).symm⟩, ⟨fun e he => ?_⟩⟩, ⟨by rw [he1]⟩, ⟨fun e he => by rw [he1]; exact closedL_le rfl⟩⟩, ⟨(crs_len C n).symm⟩⟩
                rw [show (fun x : PUnit => (crs C n).getD e 0) = fun _ => (dig n e : Int) from funext fun _ => crs_get (by rw [crs_len] at he; exact he)]
                exact int1_le (x := .sy fun _ => (dig n e : Int)) (by unfold crsK; rw [if_neg (Nat.not_lt_zero e)]; rfl)
              · obtain ⟨k, hk, hd⟩ := k
                cbv
                simp only [implies_true, and_true, true_and, IX.v_lit, IX.v_nat, IX.v_sy, BX.v_lit, BX.v_sy, NX.v_lit, NX.v_sy, addN, in_true, eq_self, Nat.succ_eq_add_one, intD_eq, encInt_le, encText_le, encSpan_le, encPair_le, encBox_le, encNote_le, encSight_le, cell_i_le, Nat.add_zero, Int.toNat_natCast, Nat.lt_irrefl, if_false, and_self, ncast, imp_self, in_self, in_self2, in_and, Int.cast_ofNat_Int, in_and2, ltB_t, ltB_f, leB_t, leB_f, eqB_t, eqB_f, ltNB_t, ltNB_f, leNB_t, leNB_f, eqNB_t, eqNB_f, noT, noF, Bool.and_eq_true, Bool.or_eq_true, Bool.and_eq_false_iff, Bool.or_eq_false_iff]
                refine ⟨fun hlt => ?_, fun hlt => ?_⟩
                · cbv
                  simp only [implies_true, and_true, true_and, IX.v_lit, IX.v_nat, IX.v_sy, BX.v_lit, BX.v_sy, NX.v_lit, NX.v_sy, addN, in_true, eq_self, Nat.succ_eq_add_one, intD_eq, encInt_le, encText_le, encSpan_le, encPair_le, encBox_le, encNote_le, encSight_le, cell_i_le, Nat.add_zero, Int.toNat_natCast, Nat.lt_irrefl, if_false, and_self, ncast, imp_self, in_self, in_self2, in_and, Int.cast_ofNat_Int, in_and2, ltB_t, ltB_f, leB_t, leB_f, eqB_t, eqB_f, ltNB_t, ltNB_f, leNB_t, leNB_f, eqNB_t, eqNB_f, noT, noF, Bool.and_eq_true, Bool.or_eq_true, Bool.and_eq_false_iff, Bool.or_eq_false_iff]
                  have hck : crsK n k k = dig n k := by unfold crsK; rw [if_neg (Nat.lt_irrefl k)]
                  refine ⟨⟨by omega⟩, ⟨by omega⟩, fun h2 => ?_, fun h2 => ?_⟩
                  · have h2 : dig n k < 2 := by (first | omega | (simp only [ncast] at *; omega))
                    cbv
                    simp only [implies_true, and_true, true_and, IX.v_lit, IX.v_nat, IX.v_sy, BX.v_lit, BX.v_sy, NX.v_lit, NX.v_sy, addN, in_true, eq_self, Nat.succ_eq_add_one, intD_eq, encInt_le, encText_le, encSpan_le, encPair_le, encBox_le, encNote_le, encSight_le, cell_i_le, Nat.add_zero, Int.toNat_natCast, Nat.lt_irrefl, if_false, and_self, ncast, imp_self, in_self, in_self2, in_and, Int.cast_ofNat_Int, in_and2, ltB_t, ltB_f, leB_t, leB_f, eqB_t, eqB_f, ltNB_t, ltNB_f, leNB_t, leNB_f, eqNB_t, eqNB_f, noT, noF, Bool.and_eq_true, Bool.or_eq_true, Bool.and_eq_false_iff, Bool.or_eq_false_iff]
                    refine ⟨⟨by omega⟩, ⟨by omega⟩, ⟨by unfold fitsK; (first | omega | (simp only [ncast] at *; omega))⟩, ⟨by omega⟩, ⟨by omega⟩, .inr ⟨n + 1, dig_more hlt h2 hnC, hany1⟩, LeBy.le (pins := [0, 1, 2, 3, 4, 5, 6, 7, 8]) hp (l := [(0, .old 0), (1, .old 1), (2, .old 2), (3, .old 3), (4, .old 4), (5, .old 5), (6, .old 6), (7, .old 7), (8, .old 8), (9, .old 9), (10, .old 10)]) ?_, by show 3 ^ C - (n + 1) < 3 ^ C - n; omega⟩
                    cbv
                    simp only [implies_true, and_true, true_and, IX.v_lit, IX.v_nat, IX.v_sy, BX.v_lit, BX.v_sy, NX.v_lit, NX.v_sy, addN, in_true, eq_self, Nat.succ_eq_add_one, intD_eq, encInt_le, encText_le, encSpan_le, encPair_le, encBox_le, encNote_le, encSight_le, cell_i_le, Nat.add_zero, Int.toNat_natCast, Nat.lt_irrefl, if_false, and_self, ncast, imp_self, in_self, in_self2, in_and, Int.cast_ofNat_Int, in_and2, noT, noF]
                    refine ⟨⟨crs_len C (n + 1)⟩, ⟨fun e he => ?_⟩⟩
                    rw [show (fun x : PUnit => (crs C (n + 1)).getD e 0) = fun _ => (dig (n + 1) e : Int) from funext fun _ => crs_get he]
                    refine put1_le (z := .sy fun _ => (dig (n + 1) e : Int)) (fun h3 => ?_) fun h3 => ?_
                    · subst h3
                      show ((dig (n + 1) e : Nat) : Int) = ((crsK n e e + 1 : Nat) : Int)
                      rw [hck, dig_next hd h2, if_neg (Nat.lt_irrefl e), if_pos rfl]
                    · show ((dig (n + 1) e : Nat) : Int) = ((crsK n k e : Nat) : Int)
                      rw [dig_next hd h2, if_neg h3]
                      rfl
                  · have h2 : dig n k = 2 := by have := dig_lt n k; (first | omega | (simp only [ncast] at *; omega))
                    cbv
                    simp only [implies_true, and_true, true_and, IX.v_lit, IX.v_nat, IX.v_sy, BX.v_lit, BX.v_sy, NX.v_lit, NX.v_sy, addN, in_true, eq_self, Nat.succ_eq_add_one, intD_eq, encInt_le, encText_le, encSpan_le, encPair_le, encBox_le, encNote_le, encSight_le, cell_i_le, Nat.add_zero, Int.toNat_natCast, Nat.lt_irrefl, if_false, and_self, ncast, imp_self, in_self, in_self2, in_and, Int.cast_ofNat_Int, in_and2, ltB_t, ltB_f, leB_t, leB_f, eqB_t, eqB_f, ltNB_t, ltNB_f, leNB_t, leNB_f, eqNB_t, eqNB_f, noT, noF, Bool.and_eq_true, Bool.or_eq_true, Bool.and_eq_false_iff, Bool.or_eq_false_iff]
                    refine ⟨⟨by omega⟩, ⟨by omega⟩, ⟨nat_fits hlt (by omega)⟩, ⟨k + 1, by omega, fun j hj => by rcases Nat.lt_succ_iff_lt_or_eq.1 hj with h3 | h3; exact hd j h3; rw [h3]; exact h2⟩, LeBy.le (pins := [0, 1, 2, 3, 4, 5, 6, 7, 8]) hp (l := [(0, .old 0), (1, .old 1), (2, .old 2), (3, .old 3), (4, .old 4), (5, .old 5), (6, .old 6), (7, .old 7), (8, .old 8), (9, .old 9), (10, .old 10)]) ?_, by show C - (k + 1) < C - k; omega⟩
                    cbv
                    simp only [implies_true, and_true, true_and, IX.v_lit, IX.v_nat, IX.v_sy, BX.v_lit, BX.v_sy, NX.v_lit, NX.v_sy, addN, in_true, eq_self, Nat.succ_eq_add_one, intD_eq, encInt_le, encText_le, encSpan_le, encPair_le, encBox_le, encNote_le, encSight_le, cell_i_le, Nat.add_zero, Int.toNat_natCast, Nat.lt_irrefl, if_false, and_self, ncast, imp_self, in_self, in_self2, in_and, Int.cast_ofNat_Int, in_and2, noT, noF]
                    refine ⟨fun e he => put1_le (fun h3 => ?_) fun h3 => ?_⟩
                    · show ((crsK n (k + 1) e : Nat) : Int) = 0
                      unfold crsK
                      rw [if_pos (by omega)]
                      rfl
                    · show ((crsK n (k + 1) e : Nat) : Int) = ((crsK n k e : Nat) : Int)
                      unfold crsK
                      by_cases h4 : e < k
                      · rw [if_pos h4, if_pos (by omega)]
                      · rw [if_neg h4, if_neg (by omega)]
                · obtain rfl : C = k := by omega
                  have hN := dig_last hd hnC
                  cbv
                  have hbt : b = true := by rw [← hb, hC, ← hN]; exact hany1
                  subst hbt
                  refine ⟨⟨[.old 10], ?_⟩, ⟨[.old 10], ?_⟩⟩
                  · cbv
                    simp only [implies_true, and_true, true_and, IX.v_lit, IX.v_nat, IX.v_sy, BX.v_lit, BX.v_sy, NX.v_lit, NX.v_sy, addN, in_true, eq_self, Nat.succ_eq_add_one, intD_eq, encInt_le, encText_le, encSpan_le, encPair_le, encBox_le, encNote_le, encSight_le, cell_i_le, Nat.add_zero, Int.toNat_natCast, Nat.lt_irrefl, if_false, and_self, ncast, imp_self, in_self, in_self2, in_and, Int.cast_ofNat_Int, in_and2, ltB_t, ltB_f, leB_t, leB_f, eqB_t, eqB_f, ltNB_t, ltNB_f, leNB_t, leNB_f, eqNB_t, eqNB_f, noT, noF, Bool.and_eq_true, Bool.or_eq_true, Bool.and_eq_false_iff, Bool.or_eq_false_iff]
                    rw [hC, ← hN]
                    exact ⟨⟨rfl⟩, ⟨fun e he => closedL_le rfl⟩⟩
                  · cbv
                    simp only [implies_true, and_true, true_and, IX.v_lit, IX.v_nat, IX.v_sy, BX.v_lit, BX.v_sy, NX.v_lit, NX.v_sy, addN, in_true, eq_self, Nat.succ_eq_add_one, intD_eq, encInt_le, encText_le, encSpan_le, encPair_le, encBox_le, encNote_le, encSight_le, cell_i_le, Nat.add_zero, Int.toNat_natCast, Nat.lt_irrefl, if_false, and_self, ncast, imp_self, in_self, in_self2, in_and, Int.cast_ofNat_Int, in_and2, ltB_t, ltB_f, leB_t, leB_f, eqB_t, eqB_f, ltNB_t, ltNB_f, leNB_t, leNB_f, eqNB_t, eqNB_f, noT, noF, Bool.and_eq_true, Bool.or_eq_true, Bool.and_eq_false_iff, Bool.or_eq_false_iff]
                    rw [hC, ← hN]
                    exact ⟨⟨rfl⟩, ⟨fun e he => closedL_le rfl⟩⟩
        · have hno : tellOk st pl sk ss ns (crs C n) = false := hno
          have hnoN : okN st pl sk ss ns n = false := by unfold okN; rw [hC]; exact hno
          have htk : takeN st pl sk ss ns most n = false := by unfold takeN; rw [hnoN]; rfl
          have hany1 : anyE st pl sk ss ns most (n + 1) = false := by rw [anyE, htk, hany]; rfl
          cbv
          refine ⟨fun hh => absurd (hno.symm.trans hh) (by decide), ⟨fun hh => hh, fun _ => rfl⟩, fun hh => absurd (hno.symm.trans hh) (by decide), fun _ => ?_⟩
          cbv
          refine ⟨{k : Nat // k ≤ C ∧ ∀ j, j < k → dig n j = 2}, fun k => ⟨[(0, .lit true, .one (.c (.func (.yield l) #[] #[]))), (1, .lit true, .one (.ref 5)), (3, .lit true, .one (.ref 9)), (26, .lit true, .one (.ref 9)), (27, .lit true, cint .i64 (.nat (fun _ => C) 0)), (28, .lit true, cint .i64 (.nat (fun _ => k.1) 0))], [(0, sightRow .ro ss), (1, noteRow .ro ns), (2, .box true 27 [.i .i64 (.sy fun _ => st), .i .i64 (.sy fun _ => pl), .i .i64 (.sy fun _ => sk), .ref 0, .ref 1]), (3, .box true 3 [.i .i64 (.sy fun _ => most)]), (4, .box true 34 [.c (.slice none 0 0)]), (5, .box true 27 [.i .i64 (.sy fun _ => st), .i .i64 (.sy fun _ => pl), .i .i64 (.sy fun _ => sk), .ref 0, .ref 1]), (6, .clo (.func 153) [] [.ref 5]), (7, .obj (.deferred (some []))), (8, .obj (.loop r)), (9, kindRow C (crsK n k.1))], 10⟩, fun k => C - k.1, ⟨0, Nat.zero_le _, fun j hj => absurd hj (Nat.not_lt_zero j)⟩, LeBy.le (pins := [0, 1, 2, 3, 4, 5, 6, 7, 8]) hp (l := [(0, .old 0), (1, .old 1), (2, .old 2), (3, .old 3), (4, .old 4), (5, .old 5), (6, .old 6), (7, .old 7), (8, .old 8), (9, .old 9)]) ?_, fun k => ?_⟩
          · cbv
            simp only [implies_true, and_true, true_and, IX.v_lit, IX.v_nat, IX.v_sy, BX.v_lit, BX.v_sy, NX.v_lit, NX.v_sy, addN, in_true, eq_self, Nat.succ_eq_add_one, intD_eq, encInt_le, encText_le, encSpan_le, encPair_le, encBox_le, encNote_le, encSight_le, cell_i_le, Nat.add_zero, Int.toNat_natCast, Nat.lt_irrefl, if_false, and_self, ncast, imp_self, in_self, in_self2, in_and, Int.cast_ofNat_Int, in_and2, noT, noF]
            refine ⟨⟨⟨(crs_len C n).symm⟩, ⟨fun e he => ?_⟩⟩, ⟨(crs_len C n).symm⟩⟩
            rw [show (fun x : PUnit => (crs C n).getD e 0) = fun _ => (dig n e : Int) from funext fun _ => crs_get (by rw [crs_len] at he; exact he)]
            exact int1_le (x := .sy fun _ => (dig n e : Int)) (by unfold crsK; rw [if_neg (Nat.not_lt_zero e)]; rfl)
          · obtain ⟨k, hk, hd⟩ := k
            cbv
            simp only [implies_true, and_true, true_and, IX.v_lit, IX.v_nat, IX.v_sy, BX.v_lit, BX.v_sy, NX.v_lit, NX.v_sy, addN, in_true, eq_self, Nat.succ_eq_add_one, intD_eq, encInt_le, encText_le, encSpan_le, encPair_le, encBox_le, encNote_le, encSight_le, cell_i_le, Nat.add_zero, Int.toNat_natCast, Nat.lt_irrefl, if_false, and_self, ncast, imp_self, in_self, in_self2, in_and, Int.cast_ofNat_Int, in_and2, ltB_t, ltB_f, leB_t, leB_f, eqB_t, eqB_f, ltNB_t, ltNB_f, leNB_t, leNB_f, eqNB_t, eqNB_f, noT, noF, Bool.and_eq_true, Bool.or_eq_true, Bool.and_eq_false_iff, Bool.or_eq_false_iff]
            refine ⟨fun hlt => ?_, fun hlt => ?_⟩
            · cbv
              simp only [implies_true, and_true, true_and, IX.v_lit, IX.v_nat, IX.v_sy, BX.v_lit, BX.v_sy, NX.v_lit, NX.v_sy, addN, in_true, eq_self, Nat.succ_eq_add_one, intD_eq, encInt_le, encText_le, encSpan_le, encPair_le, encBox_le, encNote_le, encSight_le, cell_i_le, Nat.add_zero, Int.toNat_natCast, Nat.lt_irrefl, if_false, and_self, ncast, imp_self, in_self, in_self2, in_and, Int.cast_ofNat_Int, in_and2, ltB_t, ltB_f, leB_t, leB_f, eqB_t, eqB_f, ltNB_t, ltNB_f, leNB_t, leNB_f, eqNB_t, eqNB_f, noT, noF, Bool.and_eq_true, Bool.or_eq_true, Bool.and_eq_false_iff, Bool.or_eq_false_iff]
              have hck : crsK n k k = dig n k := by unfold crsK; rw [if_neg (Nat.lt_irrefl k)]
              refine ⟨⟨by omega⟩, ⟨by omega⟩, fun h2 => ?_, fun h2 => ?_⟩
              · have h2 : dig n k < 2 := by (first | omega | (simp only [ncast] at *; omega))
                cbv
                simp only [implies_true, and_true, true_and, IX.v_lit, IX.v_nat, IX.v_sy, BX.v_lit, BX.v_sy, NX.v_lit, NX.v_sy, addN, in_true, eq_self, Nat.succ_eq_add_one, intD_eq, encInt_le, encText_le, encSpan_le, encPair_le, encBox_le, encNote_le, encSight_le, cell_i_le, Nat.add_zero, Int.toNat_natCast, Nat.lt_irrefl, if_false, and_self, ncast, imp_self, in_self, in_self2, in_and, Int.cast_ofNat_Int, in_and2, ltB_t, ltB_f, leB_t, leB_f, eqB_t, eqB_f, ltNB_t, ltNB_f, leNB_t, leNB_f, eqNB_t, eqNB_f, noT, noF, Bool.and_eq_true, Bool.or_eq_true, Bool.and_eq_false_iff, Bool.or_eq_false_iff]
                refine ⟨⟨by omega⟩, ⟨by omega⟩, ⟨by unfold fitsK; (first | omega | (simp only [ncast] at *; omega))⟩, ⟨by omega⟩, ⟨by omega⟩, .inl ⟨n + 1, dig_more hlt h2 hnC, hany1⟩, LeBy.le (pins := [0, 1, 2, 3, 4, 5, 6, 7, 8]) hp (l := [(0, .old 0), (1, .old 1), (2, .old 2), (3, .old 3), (4, .old 4), (5, .old 5), (6, .old 6), (7, .old 7), (8, .old 8), (9, .old 9)]) ?_, by show 3 ^ C - (n + 1) < 3 ^ C - n; omega⟩
                cbv
                simp only [implies_true, and_true, true_and, IX.v_lit, IX.v_nat, IX.v_sy, BX.v_lit, BX.v_sy, NX.v_lit, NX.v_sy, addN, in_true, eq_self, Nat.succ_eq_add_one, intD_eq, encInt_le, encText_le, encSpan_le, encPair_le, encBox_le, encNote_le, encSight_le, cell_i_le, Nat.add_zero, Int.toNat_natCast, Nat.lt_irrefl, if_false, and_self, ncast, imp_self, in_self, in_self2, in_and, Int.cast_ofNat_Int, in_and2, noT, noF]
                refine ⟨⟨crs_len C (n + 1)⟩, ⟨fun e he => ?_⟩⟩
                rw [show (fun x : PUnit => (crs C (n + 1)).getD e 0) = fun _ => (dig (n + 1) e : Int) from funext fun _ => crs_get he]
                refine put1_le (z := .sy fun _ => (dig (n + 1) e : Int)) (fun h3 => ?_) fun h3 => ?_
                · subst h3
                  show ((dig (n + 1) e : Nat) : Int) = ((crsK n e e + 1 : Nat) : Int)
                  rw [hck, dig_next hd h2, if_neg (Nat.lt_irrefl e), if_pos rfl]
                · show ((dig (n + 1) e : Nat) : Int) = ((crsK n k e : Nat) : Int)
                  rw [dig_next hd h2, if_neg h3]
                  rfl
              · have h2 : dig n k = 2 := by have := dig_lt n k; (first | omega | (simp only [ncast] at *; omega))
                cbv
                simp only [implies_true, and_true, true_and, IX.v_lit, IX.v_nat, IX.v_sy, BX.v_lit, BX.v_sy, NX.v_lit, NX.v_sy, addN, in_true, eq_self, Nat.succ_eq_add_one, intD_eq, encInt_le, encText_le, encSpan_le, encPair_le, encBox_le, encNote_le, encSight_le, cell_i_le, Nat.add_zero, Int.toNat_natCast, Nat.lt_irrefl, if_false, and_self, ncast, imp_self, in_self, in_self2, in_and, Int.cast_ofNat_Int, in_and2, ltB_t, ltB_f, leB_t, leB_f, eqB_t, eqB_f, ltNB_t, ltNB_f, leNB_t, leNB_f, eqNB_t, eqNB_f, noT, noF, Bool.and_eq_true, Bool.or_eq_true, Bool.and_eq_false_iff, Bool.or_eq_false_iff]
                refine ⟨⟨by omega⟩, ⟨by omega⟩, ⟨nat_fits hlt (by omega)⟩, ⟨k + 1, by omega, fun j hj => by rcases Nat.lt_succ_iff_lt_or_eq.1 hj with h3 | h3; exact hd j h3; rw [h3]; exact h2⟩, LeBy.le (pins := [0, 1, 2, 3, 4, 5, 6, 7, 8]) hp (l := [(0, .old 0), (1, .old 1), (2, .old 2), (3, .old 3), (4, .old 4), (5, .old 5), (6, .old 6), (7, .old 7), (8, .old 8), (9, .old 9)]) ?_, by show C - (k + 1) < C - k; omega⟩
                cbv
                simp only [implies_true, and_true, true_and, IX.v_lit, IX.v_nat, IX.v_sy, BX.v_lit, BX.v_sy, NX.v_lit, NX.v_sy, addN, in_true, eq_self, Nat.succ_eq_add_one, intD_eq, encInt_le, encText_le, encSpan_le, encPair_le, encBox_le, encNote_le, encSight_le, cell_i_le, Nat.add_zero, Int.toNat_natCast, Nat.lt_irrefl, if_false, and_self, ncast, imp_self, in_self, in_self2, in_and, Int.cast_ofNat_Int, in_and2, noT, noF]
                refine ⟨fun e he => put1_le (fun h3 => ?_) fun h3 => ?_⟩
                · show ((crsK n (k + 1) e : Nat) : Int) = 0
                  unfold crsK
                  rw [if_pos (by omega)]
                  rfl
                · show ((crsK n (k + 1) e : Nat) : Int) = ((crsK n k e : Nat) : Int)
                  unfold crsK
                  by_cases h4 : e < k
                  · rw [if_pos h4, if_pos (by omega)]
                  · rw [if_neg h4, if_neg (by omega)]
            · obtain rfl : C = k := by omega
              have hN := dig_last hd hnC
              cbv
              have hbf : b = false := by rw [← hb, hC, ← hN]; exact hany1
              subst hbf
              refine ⟨⟨[], ?_⟩, ⟨[], ?_⟩⟩
              · cbv
              · cbv
      · cbv
        simp only [implies_true, and_true, true_and, IX.v_lit, IX.v_nat, IX.v_sy, BX.v_lit, BX.v_sy, NX.v_lit, NX.v_sy, addN, in_true, eq_self, Nat.succ_eq_add_one, intD_eq, encInt_le, encText_le, encSpan_le, encPair_le, encBox_le, encNote_le, encSight_le, cell_i_le, Nat.add_zero, Int.toNat_natCast, Nat.lt_irrefl, if_false, and_self, ncast, imp_self, in_self, in_self2, in_and, Int.cast_ofNat_Int, in_and2, noT, noF]
        refine ⟨⟨tell_side rfl rfl rfl (by omega) (by rw [← hC]; exact run_thru hR n)⟩, ?_⟩
        simp only [in_true, eq_self, and_true, true_and, ints, texts, spans, pairs, boxs, notes, sights, seen, lget, reduceIte, Nat.reduceEqDiff, reduceCtorEq, Nat.succ_ne_self, Nat.zero_ne_one, Nat.one_ne_zero, int_row0, int_row, text_row, span_row, pair_row, box_row, note_row, sight_row]
        refine ⟨fun hok => ?_, fun hno => ?_⟩
        · have hok : tellOk st pl sk ss ns (crs C n) = true := hok
          have hokN : okN st pl sk ss ns n = true := by unfold okN; rw [hC]; exact hok
          refine ⟨?_, [0, 1, 2, 3, 4, 5, 6, 7, 8, 9], fun π2 hπa hπb => ?_⟩
          · cbv
            exact ⟨⟨hok⟩, ⟨hok⟩, ⟨hok⟩, trivial⟩
          · obtain ⟨m, hm⟩ : ∃ m, changesN (crs C n) = m := ⟨_, rfl⟩
            refine ⟨m, ?_⟩
            show ptYield _ _ _ _ _ _ _ _ _ _ _ _ _ _ _
            unfold ptYield
            refine ⟨hπb, rfl, rfl, ?_⟩
            have hp2 : ∀ i u, π2 i = some u → i ∈ [0, 1, 2, 3, 4, 5, 6, 7, 8, 9] := fun i u hu => by
              rcases hπa i u hu with h1 | ⟨v, h1⟩
              · exact inL_mem h1
              · have := hp i v h1
                simp only [List.mem_cons, List.not_mem_nil, or_false] at this ⊢
                omega
            have hcl := crs_len C n
            cbv
            refine ⟨⟨⟨(ints_at (crs C n) _ _ rfl).1, by rw [(ints_at (crs C n) _ _ rfl).2]; omega⟩, by rw [(ints_at (crs C n) _ _ rfl).2]; exact hm⟩, ?_⟩
            refine ⟨fun h1 => ?_, fun h1 => ?_⟩
            · have h1 : most < (m : Int) := ltB_t.mp h1
              have htk : takeN st pl sk ss ns most n = false := by unfold takeN; rw [hC, hm, decide_eq_false (by omega), Bool.and_false]
              have hany1 : anyE st pl sk ss ns most (n + 1) = true := by rw [anyE, htk, hany]; rfl
              have he1 : extB st pl sk ss ns most (n + 1) = extB st pl sk ss ns most n := by rw [extB, htk]; rfl
              cbv
              refine ⟨fun i hi => hi.elim, fun _ => trivial, ⟨fun _ => hok, fun _ => rfl⟩, ?_⟩
              refine ⟨{k : Nat // k ≤ C ∧ ∀ j, j < k → dig n j = 2}, fun k => ⟨[(0, .lit true, .one (.c (.func (.yield l) #[] #[]))), (1, .lit true, .one (.ref 5)), (3, .lit true, .one (.ref 9)), (26, .lit true, .one (.ref 9)), (27, .lit true, cint .i64 (.nat (fun _ => C) 0)), (28, .lit true, cint .i64 (.nat (fun _ => k.1) 0))], [(0, sightRow .ro ss), (1, noteRow .ro ns), (2, .box true 27 [.i .i64 (.sy fun _ => st), .i .i64 (.sy fun _ => pl), .i .i64 (.sy fun _ => sk), .ref 0, .ref 1]), (3, .box true 3 [.i .i64 (.sy fun _ => most)]), (4, .box true 34 [.ref 10]), (5, .box true 27 [.i .i64 (.sy fun _ => st), .i .i64 (.sy fun _ => pl), .i .i64 (.sy fun _ => sk), .ref 0, .ref 1]), (6, .clo (.func 153) [] [.ref 5]), (7, .obj (.deferred (some []))), (8, .obj (.loop r)), (9, kindRow C (crsK n k.1)), (10, boxRowT fun _ => extB st pl sk ss ns most (n + 1))], 11⟩, fun k => C - k.1, ⟨0, Nat.zero_le _, fun j hj => absurd hj (Nat.not_lt_zero j)⟩, LeBy.le (pins := [0, 1, 2, 3, 4, 5, 6, 7, 8]) hp (l := [(0, .old 0), (1, .old 1), (2, .old 2), (3, .old 3), (4, .old 4), (5, .old 5), (6, .old 6), (7, .old 7), (8, .old 8), (9, .old 9), (10, .old 10)]) ?_, fun k => ?_⟩
              · cbv
                simp only [implies_true, and_true, true_and, IX.v_lit, IX.v_nat, IX.v_sy, BX.v_lit, BX.v_sy, NX.v_lit, NX.v_sy, addN, in_true, eq_self, Nat.succ_eq_add_one, intD_eq, encInt_le, encText_le, encSpan_le, encPair_le, encBox_le, encNote_le, encSight_le, cell_i_le, Nat.add_zero, Int.toNat_natCast, Nat.lt_irrefl, if_false, and_self, ncast, imp_self, in_self, in_self2, in_and, Int.cast_ofNat_Int, in_and2, noT, noF]
                refine ⟨⟨⟨⟨(crs_len C n).symm⟩, ⟨fun e he => ?_⟩⟩, ⟨by rw [he1]⟩, ⟨fun e he => by rw [he1]; exact closedL_le rfl⟩⟩, ⟨(crs_len C n).symm⟩⟩
                rw [show (fun x : PUnit => (crs C n).getD e 0) = fun _ => (dig n e : Int) from funext fun _ => crs_get (by rw [crs_len] at he; exact he)]
                exact int1_le (x := .sy fun _ => (dig n e : Int)) (by unfold crsK; rw [if_neg (Nat.not_lt_zero e)]; rfl)
              · obtain ⟨k, hk, hd⟩ := k
                cbv
                simp only [implies_true, and_true, true_and, IX.v_lit, IX.v_nat, IX.v_sy, BX.v_lit, BX.v_sy, NX.v_lit, NX.v_sy, addN, in_true, eq_self, Nat.succ_eq_add_one, intD_eq, encInt_le, encText_le, encSpan_le, encPair_le, encBox_le, encNote_le, encSight_le, cell_i_le, Nat.add_zero, Int.toNat_natCast, Nat.lt_irrefl, if_false, and_self, ncast, imp_self, in_self, in_self2, in_and, Int.cast_ofNat_Int, in_and2, ltB_t, ltB_f, leB_t, leB_f, eqB_t, eqB_f, ltNB_t, ltNB_f, leNB_t, leNB_f, eqNB_t, eqNB_f, noT, noF, Bool.and_eq_true, Bool.or_eq_true, Bool.and_eq_false_iff, Bool.or_eq_false_iff]
                refine ⟨fun hlt => ?_, fun hlt => ?_⟩
                · cbv
                  simp only [implies_true, and_true, true_and, IX.v_lit, IX.v_nat, IX.v_sy, BX.v_lit, BX.v_sy, NX.v_lit, NX.v_sy, addN, in_true, eq_self, Nat.succ_eq_add_one, intD_eq, encInt_le, encText_le, encSpan_le, encPair_le, encBox_le, encNote_le, encSight_le, cell_i_le, Nat.add_zero, Int.toNat_natCast, Nat.lt_irrefl, if_false, and_self, ncast, imp_self, in_self, in_self2, in_and, Int.cast_ofNat_Int, in_and2, ltB_t, ltB_f, leB_t, leB_f, eqB_t, eqB_f, ltNB_t, ltNB_f, leNB_t, leNB_f, eqNB_t, eqNB_f, noT, noF, Bool.and_eq_true, Bool.or_eq_true, Bool.and_eq_false_iff, Bool.or_eq_false_iff]
                  have hck : crsK n k k = dig n k := by unfold crsK; rw [if_neg (Nat.lt_irrefl k)]
                  refine ⟨⟨by omega⟩, ⟨by omega⟩, fun h2 => ?_, fun h2 => ?_⟩
                  · have h2 : dig n k < 2 := by (first | omega | (simp only [ncast] at *; omega))
                    cbv
                    simp only [implies_true, and_true, true_and, IX.v_lit, IX.v_nat, IX.v_sy, BX.v_lit, BX.v_sy, NX.v_lit, NX.v_sy, addN, in_true, eq_self, Nat.succ_eq_add_one, intD_eq, encInt_le, encText_le, encSpan_le, encPair_le, encBox_le, encNote_le, encSight_le, cell_i_le, Nat.add_zero, Int.toNat_natCast, Nat.lt_irrefl, if_false, and_self, ncast, imp_self, in_self, in_self2, in_and, Int.cast_ofNat_Int, in_and2, ltB_t, ltB_f, leB_t, leB_f, eqB_t, eqB_f, ltNB_t, ltNB_f, leNB_t, leNB_f, eqNB_t, eqNB_f, noT, noF, Bool.and_eq_true, Bool.or_eq_true, Bool.and_eq_false_iff, Bool.or_eq_false_iff]
                    refine ⟨⟨by omega⟩, ⟨by omega⟩, ⟨by unfold fitsK; (first | omega | (simp only [ncast] at *; omega))⟩, ⟨by omega⟩, ⟨by omega⟩, .inr ⟨n + 1, dig_more hlt h2 hnC, hany1⟩, LeBy.le (pins := [0, 1, 2, 3, 4, 5, 6, 7, 8]) hp (l := [(0, .old 0), (1, .old 1), (2, .old 2), (3, .old 3), (4, .old 4), (5, .old 5), (6, .old 6), (7, .old 7), (8, .old 8), (9, .old 9), (10, .old 10)]) ?_, by show 3 ^ C - (n + 1) < 3 ^ C - n; omega⟩
                    cbv
                    simp only [implies_true, and_true, true_and, IX.v_lit, IX.v_nat, IX.v_sy, BX.v_lit, BX.v_sy, NX.v_lit, NX.v_sy, addN, in_true, eq_self, Nat.succ_eq_add_one, intD_eq, encInt_le, encText_le, encSpan_le, encPair_le, encBox_le, encNote_le, encSight_le, cell_i_le, Nat.add_zero, Int.toNat_natCast, Nat.lt_irrefl, if_false, and_self, ncast, imp_self, in_self, in_self2, in_and, Int.cast_ofNat_Int, in_and2, noT, noF]
                    refine ⟨⟨crs_len C (n + 1)⟩, ⟨fun e he => ?_⟩⟩
                    rw [show (fun x : PUnit => (crs C (n + 1)).getD e 0) = fun _ => (dig (n + 1) e : Int) from funext fun _ => crs_get he]
                    refine put1_le (z := .sy fun _ => (dig (n + 1) e : Int)) (fun h3 => ?_) fun h3 => ?_
                    · subst h3
                      show ((dig (n + 1) e : Nat) : Int) = ((crsK n e e + 1 : Nat) : Int)
                      rw [hck, dig_next hd h2, if_neg (Nat.lt_irrefl e), if_pos rfl]
                    · show ((dig (n + 1) e : Nat) : Int) = ((crsK n k e : Nat) : Int)
                      rw [dig_next hd h2, if_neg h3]
                      rfl
                  · have h2 : dig n k = 2 := by have := dig_lt n k; (first | omega | (simp only [ncast] at *; omega))
                    cbv
                    simp only [implies_true, and_true, true_and, IX.v_lit, IX.v_nat, IX.v_sy, BX.v_lit, BX.v_sy, NX.v_lit, NX.v_sy, addN, in_true, eq_self, Nat.succ_eq_add_one, intD_eq, encInt_le, encText_le, encSpan_le, encPair_le, encBox_le, encNote_le, encSight_le, cell_i_le, Nat.add_zero, Int.toNat_natCast, Nat.lt_irrefl, if_false, and_self, ncast, imp_self, in_self, in_self2, in_and, Int.cast_ofNat_Int, in_and2, ltB_t, ltB_f, leB_t, leB_f, eqB_t, eqB_f, ltNB_t, ltNB_f, leNB_t, leNB_f, eqNB_t, eqNB_f, noT, noF, Bool.and_eq_true, Bool.or_eq_true, Bool.and_eq_false_iff, Bool.or_eq_false_iff]
                    refine ⟨⟨by omega⟩, ⟨by omega⟩, ⟨nat_fits hlt (by omega)⟩, ⟨k + 1, by omega, fun j hj => by rcases Nat.lt_succ_iff_lt_or_eq.1 hj with h3 | h3; exact hd j h3; rw [h3]; exact h2⟩, LeBy.le (pins := [0, 1, 2, 3, 4, 5, 6, 7, 8]) hp (l := [(0, .old 0), (1, .old 1), (2, .old 2), (3, .old 3), (4, .old 4), (5, .old 5), (6, .old 6), (7, .old 7), (8, .old 8), (9, .old 9), (10, .old 10)]) ?_, by show C - (k + 1) < C - k; omega⟩
                    cbv
                    simp only [implies_true, and_true, true_and, IX.v_lit, IX.v_nat, IX.v_sy, BX.v_lit, BX.v_sy, NX.v_lit, NX.v_sy, addN, in_true, eq_self, Nat.succ_eq_add_one, intD_eq, encInt_le, encText_le, encSpan_le, encPair_le, encBox_le, encNote_le, encSight_le, cell_i_le, Nat.add_zero, Int.toNat_natCast, Nat.lt_irrefl, if_false, and_self, ncast, imp_self, in_self, in_self2, in_and, Int.cast_ofNat_Int, in_and2, noT, noF]
                    refine ⟨fun e he => put1_le (fun h3 => ?_) fun h3 => ?_⟩
                    · show ((crsK n (k + 1) e : Nat) : Int) = 0
                      unfold crsK
                      rw [if_pos (by omega)]
                      rfl
                    · show ((crsK n (k + 1) e : Nat) : Int) = ((crsK n k e : Nat) : Int)
                      unfold crsK
                      by_cases h4 : e < k
                      · rw [if_pos h4, if_pos (by omega)]
                      · rw [if_neg h4, if_neg (by omega)]
                · obtain rfl : C = k := by omega
                  have hN := dig_last hd hnC
                  cbv
                  have hbt : b = true := by rw [← hb, hC, ← hN]; exact hany1
                  subst hbt
                  refine ⟨⟨[.old 10], ?_⟩, ⟨[.old 10], ?_⟩⟩
                  · cbv
                    simp only [implies_true, and_true, true_and, IX.v_lit, IX.v_nat, IX.v_sy, BX.v_lit, BX.v_sy, NX.v_lit, NX.v_sy, addN, in_true, eq_self, Nat.succ_eq_add_one, intD_eq, encInt_le, encText_le, encSpan_le, encPair_le, encBox_le, encNote_le, encSight_le, cell_i_le, Nat.add_zero, Int.toNat_natCast, Nat.lt_irrefl, if_false, and_self, ncast, imp_self, in_self, in_self2, in_and, Int.cast_ofNat_Int, in_and2, ltB_t, ltB_f, leB_t, leB_f, eqB_t, eqB_f, ltNB_t, ltNB_f, leNB_t, leNB_f, eqNB_t, eqNB_f, noT, noF, Bool.and_eq_true, Bool.or_eq_true, Bool.and_eq_false_iff, Bool.or_eq_false_iff]
                    rw [hC, ← hN]
                    exact ⟨⟨rfl⟩, ⟨fun e he => closedL_le rfl⟩⟩
                  · cbv
                    simp only [implies_true, and_true, true_and, IX.v_lit, IX.v_nat, IX.v_sy, BX.v_lit, BX.v_sy, NX.v_lit, NX.v_sy, addN, in_true, eq_self, Nat.succ_eq_add_one, intD_eq, encInt_le, encText_le, encSpan_le, encPair_le, encBox_le, encNote_le, encSight_le, cell_i_le, Nat.add_zero, Int.toNat_natCast, Nat.lt_irrefl, if_false, and_self, ncast, imp_self, in_self, in_self2, in_and, Int.cast_ofNat_Int, in_and2, ltB_t, ltB_f, leB_t, leB_f, eqB_t, eqB_f, ltNB_t, ltNB_f, leNB_t, leNB_f, eqNB_t, eqNB_f, noT, noF, Bool.and_eq_true, Bool.or_eq_true, Bool.and_eq_false_iff, Bool.or_eq_false_iff]
                    rw [hC, ← hN]
                    exact ⟨⟨rfl⟩, ⟨fun e he => closedL_le rfl⟩⟩
            · have h1 : (m : Int) ≤ most := ltB_f.mp h1
              have htk : takeN st pl sk ss ns most n = true := by unfold takeN; rw [hokN, hC, hm, decide_eq_true h1]; rfl
              have hany1 : anyE st pl sk ss ns most (n + 1) = true := by rw [anyE, htk]; rfl
              have he1 : extB st pl sk ss ns most (n + 1) = coverL (extB st pl sk ss ns most n) (tellB st pl sk ss ns (crs C n)) := by rw [extB, htk, hany, hC]; rfl
              have htl := tellB_len hok
              have hxl := extB_len n hany
              cbv
              refine ⟨⟨show 1 ≤ (extB st pl sk ss ns most n).length by omega⟩, {k : Nat // k ≤ L}, fun k => ⟨[(5, .lit true, .one (.ref 4)), (7, .lit true, .one (.ref 14)), (14, .lit true, cint .i64 (.nat (fun _ => L) 0)), (15, .lit true, cint .i64 (.nat (fun _ => k.1) 0))], [(0, sightRow .ro ss), (1, noteRow .ro ns), (2, .box true 27 [.i .i64 (.sy fun _ => st), .i .i64 (.sy fun _ => pl), .i .i64 (.sy fun _ => sk), .ref 0, .ref 1]), (3, .box true 3 [.i .i64 (.sy fun _ => most)]), (4, .box true 34 [.ref 10]), (5, .box true 27 [.i .i64 (.sy fun _ => st), .i .i64 (.sy fun _ => pl), .i .i64 (.sy fun _ => sk), .ref 0, .ref 1]), (6, .clo (.func 153) [] [.ref 5]), (7, .obj (.deferred (some []))), (8, .obj (.loop { r with state := .busy })), (9, intRowT 3 fun _ => crs C n), (10, covRow L (covJ st pl sk ss ns most n k.1)), (11, boxRowT fun _ => tellB st pl sk ss ns (crs C n)), (12, spanRowT fun _ => tellH st pl sk ss ns (crs C n)), (13, textRowT fun _ => tellL st pl sk ss ns (crs C n)), (14, .box true 124 [.ref 11, .ref 12, .ref 13])], 15⟩, fun k => L - k.1, ⟨0, Nat.zero_le _⟩, LeBy.le (pins := [0, 1, 2, 3, 4, 5, 6, 7, 8, 9]) hp2 (l := [(0, .old 0), (1, .old 1), (2, .old 2), (3, .old 3), (4, .old 4), (5, .old 5), (6, .old 6), (7, .old 7), (8, .old 8), (9, .old 9), (10, .old 10), (11, .old 11), (12, .old 12), (13, .old 13), (14, .old 15)]) ?_, fun k => ?_⟩
              · cbv
                simp only [implies_true, and_true, true_and, IX.v_lit, IX.v_nat, IX.v_sy, BX.v_lit, BX.v_sy, NX.v_lit, NX.v_sy, addN, in_true, eq_self, Nat.succ_eq_add_one, intD_eq, encInt_le, encText_le, encSpan_le, encPair_le, encBox_le, encNote_le, encSight_le, cell_i_le, Nat.add_zero, Int.toNat_natCast, Nat.lt_irrefl, if_false, and_self, ncast, imp_self, in_self, in_self2, in_and, Int.cast_ofNat_Int, in_and2, noT, noF]
                refine ⟨⟨⟨by omega⟩, ⟨fun e he => ?_⟩⟩, ⟨by omega⟩⟩
                rw [show (fun x : PUnit => covJ st pl sk ss ns most n 0 e) = fun _ => (extB st pl sk ss ns most n).getD e boxD from funext fun _ => by unfold covJ; rw [if_neg (Nat.not_lt_zero e)]]
                exact closedL_le rfl
              · obtain ⟨k, hk⟩ := k
                cbv
                simp only [implies_true, and_true, true_and, IX.v_lit, IX.v_nat, IX.v_sy, BX.v_lit, BX.v_sy, NX.v_lit, NX.v_sy, addN, in_true, eq_self, Nat.succ_eq_add_one, intD_eq, encInt_le, encText_le, encSpan_le, encPair_le, encBox_le, encNote_le, encSight_le, cell_i_le, Nat.add_zero, Int.toNat_natCast, Nat.lt_irrefl, if_false, and_self, ncast, imp_self, in_self, in_self2, in_and, Int.cast_ofNat_Int, in_and2, ltB_t, ltB_f, leB_t, leB_f, eqB_t, eqB_f, ltNB_t, ltNB_f, leNB_t, leNB_f, eqNB_t, eqNB_f, noT, noF, Bool.and_eq_true, Bool.or_eq_true, Bool.and_eq_false_iff, Bool.or_eq_false_iff]
                refine ⟨fun hlt => ?_, fun hlt => ?_⟩
                · cbv
                  simp only [implies_true, and_true, true_and, IX.v_lit, IX.v_nat, IX.v_sy, BX.v_lit, BX.v_sy, NX.v_lit, NX.v_sy, addN, in_true, eq_self, Nat.succ_eq_add_one, intD_eq, encInt_le, encText_le, encSpan_le, encPair_le, encBox_le, encNote_le, encSight_le, cell_i_le, Nat.add_zero, Int.toNat_natCast, Nat.lt_irrefl, if_false, and_self, ncast, imp_self, in_self, in_self2, in_and, Int.cast_ofNat_Int, in_and2, ltB_t, ltB_f, leB_t, leB_f, eqB_t, eqB_f, ltNB_t, ltNB_f, leNB_t, leNB_f, eqNB_t, eqNB_f, noT, noF, Bool.and_eq_true, Bool.or_eq_true, Bool.and_eq_false_iff, Bool.or_eq_false_iff]
                  have hk0 : covJ st pl sk ss ns most n k k = (extB st pl sk ss ns most n).getD k boxD := by unfold covJ; rw [if_neg (Nat.lt_irrefl k)]
                  have hk1 : covJ st pl sk ss ns most n (k + 1) k = coverD ((extB st pl sk ss ns most n).getD k boxD) ((tellB st pl sk ss ns (crs C n)).getD k boxD) := by unfold covJ; rw [if_pos (Nat.lt_succ_self k), hC]
                  refine ⟨⟨by omega⟩, ⟨by omega⟩, ⟨by omega⟩, ⟨by omega⟩, ⟨by omega⟩, ⟨by omega⟩, ⟨by kernel_rfl⟩, ⟨nat_fits hlt (by omega)⟩, ⟨k + 1, by omega⟩, LeBy.le (pins := [0, 1, 2, 3, 4, 5, 6, 7, 8, 9]) hp2 (l := [(0, .old 0), (1, .old 1), (2, .old 2), (3, .old 3), (4, .old 4), (5, .old 5), (6, .old 6), (7, .old 7), (8, .old 8), (9, .old 9), (10, .old 10), (11, .old 11), (12, .old 12), (13, .old 13), (14, .old 14)]) ?_, by show L - (k + 1) < L - k; omega⟩
                  cbv
                  simp only [implies_true, and_true, true_and, IX.v_lit, IX.v_nat, IX.v_sy, BX.v_lit, BX.v_sy, NX.v_lit, NX.v_sy, addN, in_true, eq_self, Nat.succ_eq_add_one, intD_eq, encInt_le, encText_le, encSpan_le, encPair_le, encBox_le, encNote_le, encSight_le, cell_i_le, Nat.add_zero, Int.toNat_natCast, Nat.lt_irrefl, if_false, and_self, ncast, imp_self, in_self, in_self2, in_and, Int.cast_ofNat_Int, in_and2, ltB_t, ltB_f, leB_t, leB_f, eqB_t, eqB_f, ltNB_t, ltNB_f, leNB_t, leNB_f, eqNB_t, eqNB_f, noT, noF, Bool.and_eq_true, Bool.or_eq_true, Bool.and_eq_false_iff, Bool.or_eq_false_iff]
                  refine ⟨fun e he => put_le (fun h3 => ?_) fun h3 => ?_⟩
                  · subst h3
                    exact box4_le (by rw [hk1, hk0]; rfl) (by rw [hk1, hk0]; rfl) (by rw [hk1, hk0]; rfl) (by rw [hk1, hk0]; rfl)
                  · rw [show (fun x : PUnit => covJ st pl sk ss ns most n (k + 1) e) = fun _ => covJ st pl sk ss ns most n k e from funext fun _ => by
                      unfold covJ
                      by_cases h4 : e < k
                      · rw [if_pos h4, if_pos (by omega)]
                      · rw [if_neg h4, if_neg (by omega)]]
                    exact closedL_le rfl
                · obtain rfl : L = k := by omega
                  cbv
                  refine ⟨fun i hi => hi.elim, fun _ => trivial, ⟨fun _ => hok, fun _ => rfl⟩, ?_⟩
                  refine ⟨{k : Nat // k ≤ C ∧ ∀ j, j < k → dig n j = 2}, fun k => ⟨[(0, .lit true, .one (.c (.func (.yield l) #[] #[]))), (1, .lit true, .one (.ref 5)), (3, .lit true, .one (.ref 9)), (26, .lit true, .one (.ref 9)), (27, .lit true, cint .i64 (.nat (fun _ => C) 0)), (28, .lit true, cint .i64 (.nat (fun _ => k.1) 0))], [(0, sightRow .ro ss), (1, noteRow .ro ns), (2, .box true 27 [.i .i64 (.sy fun _ => st), .i .i64 (.sy fun _ => pl), .i .i64 (.sy fun _ => sk), .ref 0, .ref 1]), (3, .box true 3 [.i .i64 (.sy fun _ => most)]), (4, .box true 34 [.ref 10]), (5, .box true 27 [.i .i64 (.sy fun _ => st), .i .i64 (.sy fun _ => pl), .i .i64 (.sy fun _ => sk), .ref 0, .ref 1]), (6, .clo (.func 153) [] [.ref 5]), (7, .obj (.deferred (some []))), (8, .obj (.loop r)), (9, kindRow C (crsK n k.1)), (10, boxRowT fun _ => extB st pl sk ss ns most (n + 1))], 11⟩, fun k => C - k.1, ⟨0, Nat.zero_le _, fun j hj => absurd hj (Nat.not_lt_zero j)⟩, LeBy.le (pins := [0, 1, 2, 3, 4, 5, 6, 7, 8]) hp (l := [(0, .old 0), (1, .old 1), (2, .old 2), (3, .old 3), (4, .old 4), (5, .old 5), (6, .old 6), (7, .old 7), (8, .old 8), (9, .old 9), (10, .old 10)]) ?_, fun k => ?_⟩
                  · cbv
                    simp only [implies_true, and_true, true_and, IX.v_lit, IX.v_nat, IX.v_sy, BX.v_lit, BX.v_sy, NX.v_lit, NX.v_sy, addN, in_true, eq_self, Nat.succ_eq_add_one, intD_eq, encInt_le, encText_le, encSpan_le, encPair_le, encBox_le, encNote_le, encSight_le, cell_i_le, Nat.add_zero, Int.toNat_natCast, Nat.lt_irrefl, if_false, and_self, ncast, imp_self, in_self, in_self2, in_and, Int.cast_ofNat_Int, in_and2, noT, noF]
                    refine ⟨⟨⟨⟨(crs_len C n).symm⟩, ⟨fun e he => ?_⟩⟩, ⟨by rw [he1]; unfold coverL; rw [List.length_map, List.length_range]; omega⟩, ⟨fun e he => ?_⟩⟩, ⟨(crs_len C n).symm⟩⟩
                    · rw [show (fun x : PUnit => (crs C n).getD e 0) = fun _ => (dig n e : Int) from funext fun _ => crs_get (by rw [crs_len] at he; exact he)]
                      exact int1_le (x := .sy fun _ => (dig n e : Int)) (by unfold crsK; rw [if_neg (Nat.not_lt_zero e)]; rfl)
                    · rw [show (fun x : PUnit => (extB st pl sk ss ns most (n + 1)).getD e boxD) = fun _ => covJ st pl sk ss ns most n L e from funext fun _ => by
                        unfold covJ
                        rw [he1, if_pos he, hC]
                        unfold coverL
                        exact getD_range _ _ (by omega)]
                      exact closedL_le rfl
                  · obtain ⟨k, hk, hd⟩ := k
                    cbv
                    simp only [implies_true, and_true, true_and, IX.v_lit, IX.v_nat, IX.v_sy, BX.v_lit, BX.v_sy, NX.v_lit, NX.v_sy, addN, in_true, eq_self, Nat.succ_eq_add_one, intD_eq, encInt_le, encText_le, encSpan_le, encPair_le, encBox_le, encNote_le, encSight_le, cell_i_le, Nat.add_zero, Int.toNat_natCast, Nat.lt_irrefl, if_false, and_self, ncast, imp_self, in_self, in_self2, in_and, Int.cast_ofNat_Int, in_and2, ltB_t, ltB_f, leB_t, leB_f, eqB_t, eqB_f, ltNB_t, ltNB_f, leNB_t, leNB_f, eqNB_t, eqNB_f, noT, noF, Bool.and_eq_true, Bool.or_eq_true, Bool.and_eq_false_iff, Bool.or_eq_false_iff]
                    refine ⟨fun hlt => ?_, fun hlt => ?_⟩
                    · cbv
                      simp only [implies_true, and_true, true_and, IX.v_lit, IX.v_nat, IX.v_sy, BX.v_lit, BX.v_sy, NX.v_lit, NX.v_sy, addN, in_true, eq_self, Nat.succ_eq_add_one, intD_eq, encInt_le, encText_le, encSpan_le, encPair_le, encBox_le, encNote_le, encSight_le, cell_i_le, Nat.add_zero, Int.toNat_natCast, Nat.lt_irrefl, if_false, and_self, ncast, imp_self, in_self, in_self2, in_and, Int.cast_ofNat_Int, in_and2, ltB_t, ltB_f, leB_t, leB_f, eqB_t, eqB_f, ltNB_t, ltNB_f, leNB_t, leNB_f, eqNB_t, eqNB_f, noT, noF, Bool.and_eq_true, Bool.or_eq_true, Bool.and_eq_false_iff, Bool.or_eq_false_iff]
                      have hck : crsK n k k = dig n k := by unfold crsK; rw [if_neg (Nat.lt_irrefl k)]
                      refine ⟨⟨by omega⟩, ⟨by omega⟩, fun h2 => ?_, fun h2 => ?_⟩
                      · have h2 : dig n k < 2 := by (first | omega | (simp only [ncast] at *; omega))
                        cbv
                        simp only [implies_true, and_true, true_and, IX.v_lit, IX.v_nat, IX.v_sy, BX.v_lit, BX.v_sy, NX.v_lit, NX.v_sy, addN, in_true, eq_self, Nat.succ_eq_add_one, intD_eq, encInt_le, encText_le, encSpan_le, encPair_le, encBox_le, encNote_le, encSight_le, cell_i_le, Nat.add_zero, Int.toNat_natCast, Nat.lt_irrefl, if_false, and_self, ncast, imp_self, in_self, in_self2, in_and, Int.cast_ofNat_Int, in_and2, ltB_t, ltB_f, leB_t, leB_f, eqB_t, eqB_f, ltNB_t, ltNB_f, leNB_t, leNB_f, eqNB_t, eqNB_f, noT, noF, Bool.and_eq_true, Bool.or_eq_true, Bool.and_eq_false_iff, Bool.or_eq_false_iff]
                        refine ⟨⟨by omega⟩, ⟨by omega⟩, ⟨by unfold fitsK; (first | omega | (simp only [ncast] at *; omega))⟩, ⟨by omega⟩, ⟨by omega⟩, .inr ⟨n + 1, dig_more hlt h2 hnC, hany1⟩, LeBy.le (pins := [0, 1, 2, 3, 4, 5, 6, 7, 8]) hp (l := [(0, .old 0), (1, .old 1), (2, .old 2), (3, .old 3), (4, .old 4), (5, .old 5), (6, .old 6), (7, .old 7), (8, .old 8), (9, .old 9), (10, .old 10)]) ?_, by show 3 ^ C - (n + 1) < 3 ^ C - n; omega⟩
                        cbv
                        simp only [implies_true, and_true, true_and, IX.v_lit, IX.v_nat, IX.v_sy, BX.v_lit, BX.v_sy, NX.v_lit, NX.v_sy, addN, in_true, eq_self, Nat.succ_eq_add_one, intD_eq, encInt_le, encText_le, encSpan_le, encPair_le, encBox_le, encNote_le, encSight_le, cell_i_le, Nat.add_zero, Int.toNat_natCast, Nat.lt_irrefl, if_false, and_self, ncast, imp_self, in_self, in_self2, in_and, Int.cast_ofNat_Int, in_and2, noT, noF]
                        refine ⟨⟨crs_len C (n + 1)⟩, ⟨fun e he => ?_⟩⟩
                        rw [show (fun x : PUnit => (crs C (n + 1)).getD e 0) = fun _ => (dig (n + 1) e : Int) from funext fun _ => crs_get he]
                        refine put1_le (z := .sy fun _ => (dig (n + 1) e : Int)) (fun h3 => ?_) fun h3 => ?_
                        · subst h3
                          show ((dig (n + 1) e : Nat) : Int) = ((crsK n e e + 1 : Nat) : Int)
                          rw [hck, dig_next hd h2, if_neg (Nat.lt_irrefl e), if_pos rfl]
                        · show ((dig (n + 1) e : Nat) : Int) = ((crsK n k e : Nat) : Int)
                          rw [dig_next hd h2, if_neg h3]
                          rfl
                      · have h2 : dig n k = 2 := by have := dig_lt n k; (first | omega | (simp only [ncast] at *; omega))
                        cbv
                        simp only [implies_true, and_true, true_and, IX.v_lit, IX.v_nat, IX.v_sy, BX.v_lit, BX.v_sy, NX.v_lit, NX.v_sy, addN, in_true, eq_self, Nat.succ_eq_add_one, intD_eq, encInt_le, encText_le, encSpan_le, encPair_le, encBox_le, encNote_le, encSight_le, cell_i_le, Nat.add_zero, Int.toNat_natCast, Nat.lt_irrefl, if_false, and_self, ncast, imp_self, in_self, in_self2, in_and, Int.cast_ofNat_Int, in_and2, ltB_t, ltB_f, leB_t, leB_f, eqB_t, eqB_f, ltNB_t, ltNB_f, leNB_t, leNB_f, eqNB_t, eqNB_f, noT, noF, Bool.and_eq_true, Bool.or_eq_true, Bool.and_eq_false_iff, Bool.or_eq_false_iff]
                        refine ⟨⟨by omega⟩, ⟨by omega⟩, ⟨nat_fits hlt (by omega)⟩, ⟨k + 1, by omega, fun j hj => by rcases Nat.lt_succ_iff_lt_or_eq.1 hj with h3 | h3; exact hd j h3; rw [h3]; exact h2⟩, LeBy.le (pins := [0, 1, 2, 3, 4, 5, 6, 7, 8]) hp (l := [(0, .old 0), (1, .old 1), (2, .old 2), (3, .old 3), (4, .old 4), (5, .old 5), (6, .old 6), (7, .old 7), (8, .old 8), (9, .old 9), (10, .old 10)]) ?_, by show C - (k + 1) < C - k; omega⟩
                        cbv
                        simp only [implies_true, and_true, true_and, IX.v_lit, IX.v_nat, IX.v_sy, BX.v_lit, BX.v_sy, NX.v_lit, NX.v_sy, addN, in_true, eq_self, Nat.succ_eq_add_one, intD_eq, encInt_le, encText_le, encSpan_le, encPair_le, encBox_le, encNote_le, encSight_le, cell_i_le, Nat.add_zero, Int.toNat_natCast, Nat.lt_irrefl, if_false, and_self, ncast, imp_self, in_self, in_self2, in_and, Int.cast_ofNat_Int, in_and2, noT, noF]
                        refine ⟨fun e he => put1_le (fun h3 => ?_) fun h3 => ?_⟩
                        · show ((crsK n (k + 1) e : Nat) : Int) = 0
                          unfold crsK
                          rw [if_pos (by omega)]
                          rfl
                        · show ((crsK n (k + 1) e : Nat) : Int) = ((crsK n k e : Nat) : Int)
                          unfold crsK
                          by_cases h4 : e < k
                          · rw [if_pos h4, if_pos (by omega)]
                          · rw [if_neg h4, if_neg (by omega)]
                    · obtain rfl : C = k := by omega
                      have hN := dig_last hd hnC
                      cbv
                      have hbt : b = true := by rw [← hb, hC, ← hN]; exact hany1
                      subst hbt
                      refine ⟨⟨[.old 10], ?_⟩, ⟨[.old 10], ?_⟩⟩
                      · cbv
                        simp only [implies_true, and_true, true_and, IX.v_lit, IX.v_nat, IX.v_sy, BX.v_lit, BX.v_sy, NX.v_lit, NX.v_sy, addN, in_true, eq_self, Nat.succ_eq_add_one, intD_eq, encInt_le, encText_le, encSpan_le, encPair_le, encBox_le, encNote_le, encSight_le, cell_i_le, Nat.add_zero, Int.toNat_natCast, Nat.lt_irrefl, if_false, and_self, ncast, imp_self, in_self, in_self2, in_and, Int.cast_ofNat_Int, in_and2, ltB_t, ltB_f, leB_t, leB_f, eqB_t, eqB_f, ltNB_t, ltNB_f, leNB_t, leNB_f, eqNB_t, eqNB_f, noT, noF, Bool.and_eq_true, Bool.or_eq_true, Bool.and_eq_false_iff, Bool.or_eq_false_iff]
                        rw [hC, ← hN]
                        exact ⟨⟨rfl⟩, ⟨fun e he => closedL_le rfl⟩⟩
                      · cbv
                        simp only [implies_true, and_true, true_and, IX.v_lit, IX.v_nat, IX.v_sy, BX.v_lit, BX.v_sy, NX.v_lit, NX.v_sy, addN, in_true, eq_self, Nat.succ_eq_add_one, intD_eq, encInt_le, encText_le, encSpan_le, encPair_le, encBox_le, encNote_le, encSight_le, cell_i_le, Nat.add_zero, Int.toNat_natCast, Nat.lt_irrefl, if_false, and_self, ncast, imp_self, in_self, in_self2, in_and, Int.cast_ofNat_Int, in_and2, ltB_t, ltB_f, leB_t, leB_f, eqB_t, eqB_f, ltNB_t, ltNB_f, leNB_t, leNB_f, eqNB_t, eqNB_f, noT, noF, Bool.and_eq_true, Bool.or_eq_true, Bool.and_eq_false_iff, Bool.or_eq_false_iff]
                        rw [hC, ← hN]
                        exact ⟨⟨rfl⟩, ⟨fun e he => closedL_le rfl⟩⟩
        · have hno : tellOk st pl sk ss ns (crs C n) = false := hno
          have hnoN : okN st pl sk ss ns n = false := by unfold okN; rw [hC]; exact hno
          have htk : takeN st pl sk ss ns most n = false := by unfold takeN; rw [hnoN]; rfl
          have hany1 : anyE st pl sk ss ns most (n + 1) = true := by rw [anyE, htk, hany]; rfl
          have he1 : extB st pl sk ss ns most (n + 1) = extB st pl sk ss ns most n := by rw [extB, htk]; rfl
          cbv
          refine ⟨fun hh => absurd (hno.symm.trans hh) (by decide), ⟨fun hh => hh, fun _ => rfl⟩, fun hh => absurd (hno.symm.trans hh) (by decide), fun _ => ?_⟩
          cbv
          refine ⟨{k : Nat // k ≤ C ∧ ∀ j, j < k → dig n j = 2}, fun k => ⟨[(0, .lit true, .one (.c (.func (.yield l) #[] #[]))), (1, .lit true, .one (.ref 5)), (3, .lit true, .one (.ref 9)), (26, .lit true, .one (.ref 9)), (27, .lit true, cint .i64 (.nat (fun _ => C) 0)), (28, .lit true, cint .i64 (.nat (fun _ => k.1) 0))], [(0, sightRow .ro ss), (1, noteRow .ro ns), (2, .box true 27 [.i .i64 (.sy fun _ => st), .i .i64 (.sy fun _ => pl), .i .i64 (.sy fun _ => sk), .ref 0, .ref 1]), (3, .box true 3 [.i .i64 (.sy fun _ => most)]), (4, .box true 34 [.ref 10]), (5, .box true 27 [.i .i64 (.sy fun _ => st), .i .i64 (.sy fun _ => pl), .i .i64 (.sy fun _ => sk), .ref 0, .ref 1]), (6, .clo (.func 153) [] [.ref 5]), (7, .obj (.deferred (some []))), (8, .obj (.loop r)), (9, kindRow C (crsK n k.1)), (10, boxRowT fun _ => extB st pl sk ss ns most (n + 1))], 11⟩, fun k => C - k.1, ⟨0, Nat.zero_le _, fun j hj => absurd hj (Nat.not_lt_zero j)⟩, LeBy.le (pins := [0, 1, 2, 3, 4, 5, 6, 7, 8]) hp (l := [(0, .old 0), (1, .old 1), (2, .old 2), (3, .old 3), (4, .old 4), (5, .old 5), (6, .old 6), (7, .old 7), (8, .old 8), (9, .old 9), (10, .old 10)]) ?_, fun k => ?_⟩
          · cbv
            simp only [implies_true, and_true, true_and, IX.v_lit, IX.v_nat, IX.v_sy, BX.v_lit, BX.v_sy, NX.v_lit, NX.v_sy, addN, in_true, eq_self, Nat.succ_eq_add_one, intD_eq, encInt_le, encText_le, encSpan_le, encPair_le, encBox_le, encNote_le, encSight_le, cell_i_le, Nat.add_zero, Int.toNat_natCast, Nat.lt_irrefl, if_false, and_self, ncast, imp_self, in_self, in_self2, in_and, Int.cast_ofNat_Int, in_and2, noT, noF]
            refine ⟨⟨⟨⟨(crs_len C n).symm⟩, ⟨fun e he => ?_⟩⟩, ⟨by rw [he1]⟩, ⟨fun e he => by rw [he1]; exact closedL_le rfl⟩⟩, ⟨(crs_len C n).symm⟩⟩
            rw [show (fun x : PUnit => (crs C n).getD e 0) = fun _ => (dig n e : Int) from funext fun _ => crs_get (by rw [crs_len] at he; exact he)]
            exact int1_le (x := .sy fun _ => (dig n e : Int)) (by unfold crsK; rw [if_neg (Nat.not_lt_zero e)]; rfl)
          · obtain ⟨k, hk, hd⟩ := k
            cbv
            simp only [implies_true, and_true, true_and, IX.v_lit, IX.v_nat, IX.v_sy, BX.v_lit, BX.v_sy, NX.v_lit, NX.v_sy, addN, in_true, eq_self, Nat.succ_eq_add_one, intD_eq, encInt_le, encText_le, encSpan_le, encPair_le, encBox_le, encNote_le, encSight_le, cell_i_le, Nat.add_zero, Int.toNat_natCast, Nat.lt_irrefl, if_false, and_self, ncast, imp_self, in_self, in_self2, in_and, Int.cast_ofNat_Int, in_and2, ltB_t, ltB_f, leB_t, leB_f, eqB_t, eqB_f, ltNB_t, ltNB_f, leNB_t, leNB_f, eqNB_t, eqNB_f, noT, noF, Bool.and_eq_true, Bool.or_eq_true, Bool.and_eq_false_iff, Bool.or_eq_false_iff]
            refine ⟨fun hlt => ?_, fun hlt => ?_⟩
            · cbv
              simp only [implies_true, and_true, true_and, IX.v_lit, IX.v_nat, IX.v_sy, BX.v_lit, BX.v_sy, NX.v_lit, NX.v_sy, addN, in_true, eq_self, Nat.succ_eq_add_one, intD_eq, encInt_le, encText_le, encSpan_le, encPair_le, encBox_le, encNote_le, encSight_le, cell_i_le, Nat.add_zero, Int.toNat_natCast, Nat.lt_irrefl, if_false, and_self, ncast, imp_self, in_self, in_self2, in_and, Int.cast_ofNat_Int, in_and2, ltB_t, ltB_f, leB_t, leB_f, eqB_t, eqB_f, ltNB_t, ltNB_f, leNB_t, leNB_f, eqNB_t, eqNB_f, noT, noF, Bool.and_eq_true, Bool.or_eq_true, Bool.and_eq_false_iff, Bool.or_eq_false_iff]
              have hck : crsK n k k = dig n k := by unfold crsK; rw [if_neg (Nat.lt_irrefl k)]
              refine ⟨⟨by omega⟩, ⟨by omega⟩, fun h2 => ?_, fun h2 => ?_⟩
              · have h2 : dig n k < 2 := by (first | omega | (simp only [ncast] at *; omega))
                cbv
                simp only [implies_true, and_true, true_and, IX.v_lit, IX.v_nat, IX.v_sy, BX.v_lit, BX.v_sy, NX.v_lit, NX.v_sy, addN, in_true, eq_self, Nat.succ_eq_add_one, intD_eq, encInt_le, encText_le, encSpan_le, encPair_le, encBox_le, encNote_le, encSight_le, cell_i_le, Nat.add_zero, Int.toNat_natCast, Nat.lt_irrefl, if_false, and_self, ncast, imp_self, in_self, in_self2, in_and, Int.cast_ofNat_Int, in_and2, ltB_t, ltB_f, leB_t, leB_f, eqB_t, eqB_f, ltNB_t, ltNB_f, leNB_t, leNB_f, eqNB_t, eqNB_f, noT, noF, Bool.and_eq_true, Bool.or_eq_true, Bool.and_eq_false_iff, Bool.or_eq_false_iff]
                refine ⟨⟨by omega⟩, ⟨by omega⟩, ⟨by unfold fitsK; (first | omega | (simp only [ncast] at *; omega))⟩, ⟨by omega⟩, ⟨by omega⟩, .inr ⟨n + 1, dig_more hlt h2 hnC, hany1⟩, LeBy.le (pins := [0, 1, 2, 3, 4, 5, 6, 7, 8]) hp (l := [(0, .old 0), (1, .old 1), (2, .old 2), (3, .old 3), (4, .old 4), (5, .old 5), (6, .old 6), (7, .old 7), (8, .old 8), (9, .old 9), (10, .old 10)]) ?_, by show 3 ^ C - (n + 1) < 3 ^ C - n; omega⟩
                cbv
                simp only [implies_true, and_true, true_and, IX.v_lit, IX.v_nat, IX.v_sy, BX.v_lit, BX.v_sy, NX.v_lit, NX.v_sy, addN, in_true, eq_self, Nat.succ_eq_add_one, intD_eq, encInt_le, encText_le, encSpan_le, encPair_le, encBox_le, encNote_le, encSight_le, cell_i_le, Nat.add_zero, Int.toNat_natCast, Nat.lt_irrefl, if_false, and_self, ncast, imp_self, in_self, in_self2, in_and, Int.cast_ofNat_Int, in_and2, noT, noF]
                refine ⟨⟨crs_len C (n + 1)⟩, ⟨fun e he => ?_⟩⟩
                rw [show (fun x : PUnit => (crs C (n + 1)).getD e 0) = fun _ => (dig (n + 1) e : Int) from funext fun _ => crs_get he]
                refine put1_le (z := .sy fun _ => (dig (n + 1) e : Int)) (fun h3 => ?_) fun h3 => ?_
                · subst h3
                  show ((dig (n + 1) e : Nat) : Int) = ((crsK n e e + 1 : Nat) : Int)
                  rw [hck, dig_next hd h2, if_neg (Nat.lt_irrefl e), if_pos rfl]
                · show ((dig (n + 1) e : Nat) : Int) = ((crsK n k e : Nat) : Int)
                  rw [dig_next hd h2, if_neg h3]
                  rfl
              · have h2 : dig n k = 2 := by have := dig_lt n k; (first | omega | (simp only [ncast] at *; omega))
                cbv
                simp only [implies_true, and_true, true_and, IX.v_lit, IX.v_nat, IX.v_sy, BX.v_lit, BX.v_sy, NX.v_lit, NX.v_sy, addN, in_true, eq_self, Nat.succ_eq_add_one, intD_eq, encInt_le, encText_le, encSpan_le, encPair_le, encBox_le, encNote_le, encSight_le, cell_i_le, Nat.add_zero, Int.toNat_natCast, Nat.lt_irrefl, if_false, and_self, ncast, imp_self, in_self, in_self2, in_and, Int.cast_ofNat_Int, in_and2, ltB_t, ltB_f, leB_t, leB_f, eqB_t, eqB_f, ltNB_t, ltNB_f, leNB_t, leNB_f, eqNB_t, eqNB_f, noT, noF, Bool.and_eq_true, Bool.or_eq_true, Bool.and_eq_false_iff, Bool.or_eq_false_iff]
                refine ⟨⟨by omega⟩, ⟨by omega⟩, ⟨nat_fits hlt (by omega)⟩, ⟨k + 1, by omega, fun j hj => by rcases Nat.lt_succ_iff_lt_or_eq.1 hj with h3 | h3; exact hd j h3; rw [h3]; exact h2⟩, LeBy.le (pins := [0, 1, 2, 3, 4, 5, 6, 7, 8]) hp (l := [(0, .old 0), (1, .old 1), (2, .old 2), (3, .old 3), (4, .old 4), (5, .old 5), (6, .old 6), (7, .old 7), (8, .old 8), (9, .old 9), (10, .old 10)]) ?_, by show C - (k + 1) < C - k; omega⟩
                cbv
                simp only [implies_true, and_true, true_and, IX.v_lit, IX.v_nat, IX.v_sy, BX.v_lit, BX.v_sy, NX.v_lit, NX.v_sy, addN, in_true, eq_self, Nat.succ_eq_add_one, intD_eq, encInt_le, encText_le, encSpan_le, encPair_le, encBox_le, encNote_le, encSight_le, cell_i_le, Nat.add_zero, Int.toNat_natCast, Nat.lt_irrefl, if_false, and_self, ncast, imp_self, in_self, in_self2, in_and, Int.cast_ofNat_Int, in_and2, noT, noF]
                refine ⟨fun e he => put1_le (fun h3 => ?_) fun h3 => ?_⟩
                · show ((crsK n (k + 1) e : Nat) : Int) = 0
                  unfold crsK
                  rw [if_pos (by omega)]
                  rfl
                · show ((crsK n (k + 1) e : Nat) : Int) = ((crsK n k e : Nat) : Int)
                  unfold crsK
                  by_cases h4 : e < k
                  · rw [if_pos h4, if_pos (by omega)]
                  · rw [if_neg h4, if_neg (by omega)]
            · obtain rfl : C = k := by omega
              have hN := dig_last hd hnC
              cbv
              have hbt : b = true := by rw [← hb, hC, ← hN]; exact hany1
              subst hbt
              refine ⟨⟨[.old 10], ?_⟩, ⟨[.old 10], ?_⟩⟩
              · cbv
                simp only [implies_true, and_true, true_and, IX.v_lit, IX.v_nat, IX.v_sy, BX.v_lit, BX.v_sy, NX.v_lit, NX.v_sy, addN, in_true, eq_self, Nat.succ_eq_add_one, intD_eq, encInt_le, encText_le, encSpan_le, encPair_le, encBox_le, encNote_le, encSight_le, cell_i_le, Nat.add_zero, Int.toNat_natCast, Nat.lt_irrefl, if_false, and_self, ncast, imp_self, in_self, in_self2, in_and, Int.cast_ofNat_Int, in_and2, ltB_t, ltB_f, leB_t, leB_f, eqB_t, eqB_f, ltNB_t, ltNB_f, leNB_t, leNB_f, eqNB_t, eqNB_f, noT, noF, Bool.and_eq_true, Bool.or_eq_true, Bool.and_eq_false_iff, Bool.or_eq_false_iff]
                rw [hC, ← hN]
                exact ⟨⟨rfl⟩, ⟨fun e he => closedL_le rfl⟩⟩
              · cbv
                simp only [implies_true, and_true, true_and, IX.v_lit, IX.v_nat, IX.v_sy, BX.v_lit, BX.v_sy, NX.v_lit, NX.v_sy, addN, in_true, eq_self, Nat.succ_eq_add_one, intD_eq, encInt_le, encText_le, encSpan_le, encPair_le, encBox_le, encNote_le, encSight_le, cell_i_le, Nat.add_zero, Int.toNat_natCast, Nat.lt_irrefl, if_false, and_self, ncast, imp_self, in_self, in_self2, in_and, Int.cast_ofNat_Int, in_and2, ltB_t, ltB_f, leB_t, leB_f, eqB_t, eqB_f, ltNB_t, ltNB_f, leNB_t, leNB_f, eqNB_t, eqNB_f, noT, noF, Bool.and_eq_true, Bool.or_eq_true, Bool.and_eq_false_iff, Bool.or_eq_false_iff]
                rw [hC, ← hN]
                exact ⟨⟨rfl⟩, ⟨fun e he => closedL_le rfl⟩⟩
end Go.Proofs.YthgllnnlngihoaaGreat.Sx
end
section
set_option linter.unusedVariables false
set_option linter.unusedSimpArgs false
set_option maxRecDepth 100000
namespace Go.Proofs.YthgllnnlngihoaaGreat.Sx
open Go.RowKit

section
variable (st pl sk : Int) (ss : List SightD) (ns : List NoteD)
def leastE : Int := bif decide (checkE st pl sk ss ns = 0) then (bif someK st pl sk ss ns (3 ^ (ss.length - 1)) then 0 else 9) else checkE st pl sk ss ns
def leastL : List Int := bif decide (checkE st pl sk ss ns = 0) then (bif someK st pl sk ss ns (3 ^ (ss.length - 1)) then bestL st pl sk ss ns (3 ^ (ss.length - 1)) else []) else []
end
theorem run_side {M : Mem} {c d : CV} {ss : List SightD} {ns : List NoteD} {st pl sk : Int} {r1 r2 : List Nat} (h1 : seen M c = ⟨True, .sy (fun _ => ss.length) 0, 9, fun e => encSight fun _ => ss.getD e sightD, r1⟩) (h2 : seen M d = ⟨True, .sy (fun _ => ns.length) 0, 4, fun e => encNote fun _ => ns.getD e noteD, r2⟩)
    (H : RunOk st pl sk ss ns) : okLife M c d ∧ RunOk st pl sk (sights M c) (notes M d) := by
  have a := H.few
  have b := H.notes
  refine ⟨life_at h1 h2 (by omega) (by omega), ?_⟩
  rw [(sights_at ss M c h1).2, (notes_at ns M d h2).2]
  exact H
def spLeastOf : Spec := fun args M base => match args with
  | [.agg [.i .i64 st, .i .i64 pl, .i .i64 sk, c, d]] => ⟨In fun _ => okLife M c d, .tup [.one (.ref base), .one (.i .i64 (.sy fun _ => leastE st.val pl.val sk.val (sights M c) (notes M d)))], [intRowT 3 fun _ => leastL st.val pl.val sk.val (sights M c) (notes M d)], [], (seen M c).reads ++ (seen M d).reads⟩
  | _ => bad
theorem congrLeastOf : spLeastOf.Congr := by
  intro args M M' base hs h
  unfold spLeastOf at *
  split at hs
  · simp only [okLife, okSights, okNotes, sights, notes] at h ⊢
    rw [seen_congr (M := M) (M' := M') (fun i hi => h i (List.mem_append_left _ hi)), seen_congr (M := M) (M' := M') (fun i hi => h i (List.mem_append_right _ hi))]
  · exact hs.elim
theorem okLeastOf : SpecOk F0 Tryz.prog 72 spLeastOf := by
  refine spec_gen (e := en [(23, spCheck), (91, spLeast91)]) (en_ok ⟨okCheck, okLeast91, trivial⟩) rfl (fn := Tryz.f72) (c := fbody Tryz.f72) (by kernel_rfl) rfl rfl (by kernel_rfl) congrLeastOf fun args M base hs => ?_
  unfold spLeastOf at hs ⊢
  split at hs
  · rename_i st pl sk c d
    refine ⟨[.agg [.i .i64 (.sy fun _ => st.val), .i .i64 (.sy fun _ => pl.val), .i .i64 (.sy fun _ => sk.val), .ref 0, .ref 1]], [sightRow .ro (sights M c), noteRow .ro (notes M d)], fun base => .tup [.one (.ref base), .one (.i .i64 (.sy fun _ => leastE st.val pl.val sk.val (sights M c) (notes M d)))], fun _ => [intRowT 3 fun _ => leastL st.val pl.val sk.val (sights M c) (notes M d)], Nat.le_of_ble_eq_true rfl, ⟨rfl, trivial⟩, .val rfl (.val rfl (.val rfl (.row (sight_from hs.ok.1) (.row (note_from hs.ok.2.1) .nil)))), rfl, rfl, rfl, ⟨tauN_at (t := 0) (Nat.zero_lt_one : 0 < 1), ⟨isT_iff.2 rfl, ⟨rfl⟩⟩, trivial⟩, ⟨rowOf_le intCod .own _ _, trivial⟩, own1 rfl, fun B => ?_⟩
    have hsz : (sights M c).length ≤ 140737488355328 := hs.ok.2.2.1
    have hnz : (notes M d).length ≤ 140737488355328 := hs.ok.2.2.2
    clear hs
    revert hsz hnz
    generalize sights M c = ss
    generalize notes M d = ns
    intro hsz hnz
    generalize st.val = st
    generalize pl.val = pl
    generalize sk.val = sk
    cbv
    simp only [implies_true, and_true, true_and, IX.v_lit, IX.v_nat, IX.v_sy, BX.v_lit, BX.v_sy, NX.v_lit, NX.v_sy, addN, in_true, eq_self, Nat.succ_eq_add_one, intD_eq, encInt_le, encText_le, encSpan_le, encPair_le, encBox_le, encNote_le, encSight_le, cell_i_le, Nat.add_zero, Int.toNat_natCast, Nat.lt_irrefl, if_false, and_self, ncast, imp_self, in_self, in_self2, in_and, Int.cast_ofNat_Int, in_and2, noT, noF]
    simp only [in_true, eq_self, and_true, true_and, ints, texts, spans, pairs, boxs, notes, sights, seen, lget, reduceIte, Nat.reduceEqDiff, reduceCtorEq, Nat.succ_ne_self, Nat.zero_ne_one, Nat.one_ne_zero, int_row0, int_row, text_row, span_row, pair_row, box_row, note_row, sight_row]
    refine ⟨⟨life_at rfl rfl hsz hnz⟩, fun h => ?_, fun h => ?_⟩
    · have h : checkE st pl sk ss ns ≠ 0 := of_decide_eq_false h
      cbv
      refine ⟨[.nil], ?_⟩
      cbv
      simp only [implies_true, and_true, true_and, IX.v_lit, IX.v_nat, IX.v_sy, BX.v_lit, BX.v_sy, NX.v_lit, NX.v_sy, addN, in_true, eq_self, Nat.succ_eq_add_one, intD_eq, encInt_le, encText_le, encSpan_le, encPair_le, encBox_le, encNote_le, encSight_le, cell_i_le, Nat.add_zero, Int.toNat_natCast, Nat.lt_irrefl, if_false, and_self, ncast, imp_self, in_self, in_self2, in_and, Int.cast_ofNat_Int, in_and2, ltB_t, ltB_f, leB_t, leB_f, eqB_t, eqB_f, ltNB_t, ltNB_f, leNB_t, leNB_f, eqNB_t, eqNB_f, noT, noF, Bool.and_eq_true, Bool.or_eq_true, Bool.and_eq_false_iff, Bool.or_eq_false_iff]
      exact ⟨⟨by unfold leastL; rw [decide_eq_false h]; rfl⟩, ⟨by unfold leastE; rw [decide_eq_false h]; rfl⟩⟩
    · have h : checkE st pl sk ss ns = 0 := of_decide_eq_true h
      have hR := runOk_of_check h
      cbv
      simp only [implies_true, and_true, true_and, IX.v_lit, IX.v_nat, IX.v_sy, BX.v_lit, BX.v_sy, NX.v_lit, NX.v_sy, addN, in_true, eq_self, Nat.succ_eq_add_one, intD_eq, encInt_le, encText_le, encSpan_le, encPair_le, encBox_le, encNote_le, encSight_le, cell_i_le, Nat.add_zero, Int.toNat_natCast, Nat.lt_irrefl, if_false, and_self, ncast, imp_self, in_self, in_self2, in_and, Int.cast_ofNat_Int, in_and2, noT, noF]
      refine ⟨⟨run_side rfl rfl hR⟩, ?_⟩
      simp only [in_true, eq_self, and_true, true_and, ints, texts, spans, pairs, boxs, notes, sights, seen, lget, reduceIte, Nat.reduceEqDiff, reduceCtorEq, Nat.succ_ne_self, Nat.zero_ne_one, Nat.one_ne_zero, int_row0, int_row, text_row, span_row, pair_row, box_row, note_row, sight_row]
      obtain ⟨N, hN⟩ : ∃ N, 3 ^ (ss.length - 1) = N := ⟨_, rfl⟩
      rw [hN]
      refine ⟨fun hs => ?_, fun hs => ?_⟩
      · have hs : someK st pl sk ss ns N = false := by revert hs; cases someK st pl sk ss ns N <;> simp
        cbv
        refine ⟨[.nil], ?_⟩
        cbv
        simp only [implies_true, and_true, true_and, IX.v_lit, IX.v_nat, IX.v_sy, BX.v_lit, BX.v_sy, NX.v_lit, NX.v_sy, addN, in_true, eq_self, Nat.succ_eq_add_one, intD_eq, encInt_le, encText_le, encSpan_le, encPair_le, encBox_le, encNote_le, encSight_le, cell_i_le, Nat.add_zero, Int.toNat_natCast, Nat.lt_irrefl, if_false, and_self, ncast, imp_self, in_self, in_self2, in_and, Int.cast_ofNat_Int, in_and2, ltB_t, ltB_f, leB_t, leB_f, eqB_t, eqB_f, ltNB_t, ltNB_f, leNB_t, leNB_f, eqNB_t, eqNB_f, noT, noF, Bool.and_eq_true, Bool.or_eq_true, Bool.and_eq_false_iff, Bool.or_eq_false_iff]
        exact ⟨⟨by unfold leastL; rw [decide_eq_true h, hN, hs]; rfl⟩, ⟨by unfold leastE; rw [decide_eq_true h, hN, hs]; rfl⟩⟩
      · have hs : someK st pl sk ss ns N = true := by revert hs; cases someK st pl sk ss ns N <;> simp
        have e1 : leastL st pl sk ss ns = bestL st pl sk ss ns N := by unfold leastL; rw [decide_eq_true h, hN, hs]; rfl
        have e2 : leastE st pl sk ss ns = 0 := by unfold leastE; rw [decide_eq_true h, hN, hs]; rfl
        cbv
        refine ⟨[.old 3], ?_⟩
        cbv
        simp only [implies_true, and_true, true_and, IX.v_lit, IX.v_nat, IX.v_sy, BX.v_lit, BX.v_sy, NX.v_lit, NX.v_sy, addN, in_true, eq_self, Nat.succ_eq_add_one, intD_eq, encInt_le, encText_le, encSpan_le, encPair_le, encBox_le, encNote_le, encSight_le, cell_i_le, Nat.add_zero, Int.toNat_natCast, Nat.lt_irrefl, if_false, and_self, ncast, imp_self, in_self, in_self2, in_and, Int.cast_ofNat_Int, in_and2, ltB_t, ltB_f, leB_t, leB_f, eqB_t, eqB_f, ltNB_t, ltNB_f, leNB_t, leNB_f, eqNB_t, eqNB_f, noT, noF, Bool.and_eq_true, Bool.or_eq_true, Bool.and_eq_false_iff, Bool.or_eq_false_iff]
        exact ⟨⟨⟨by rw [e1]⟩, ⟨fun e he => by rw [e1]; exact closedL_le rfl⟩⟩, ⟨e2⟩⟩
  · exact hs.elim
end Go.Proofs.YthgllnnlngihoaaGreat.Sx
end
