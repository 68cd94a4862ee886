/- letters; kinds; tell; DERIVED: THE SHELF's CONTRACTS AT THIS DUMP, IN PLAIN WORDS (tools/lay-plain.mjs out of 'TryzShelf.lean', which tools/lay-shelf.mjs wrote): THE SAME DECLARATIONS UNDER THE SAME NAMES: 'import', 'namespace', 'open', 'def', 'theorem' AND NOTHING ELSE: no command of the shelf's: FOR A HAND-IN. Each laying: the table of numbers ('.._ren') and one theorem, a field a fact of the dump's own or the kernel's comparison; each contract: ONE APPLICATION. -/
import Derived.Shelf.Small.Bits
import Derived.Shelf.Small.Wraps
import Derived.Shelf.Strconv.Itoa0
import Derived.Shelf.Sort.Plain
import Derived.Shelf.Slices.Turned
import Derived.Ground.Names2Prog
import Derived.Shelf.Slices.Clone
import Derived.Shelf.Slices.CompactI
import Derived.Shelf.Slices.SearchI
import Derived.Shelf.Slices.Cells
import Derived.Shelf.Slices.In.SortNone
import Derived.Ground.SlgnProg
import Derived.Shelf.SlicesE.Clone
import Derived.Test.YthgllnnlngihoaaGreatProg
import Derived.Test.YthgllnnlngihoaaGreatSz08
section
set_option linter.unusedVariables false
set_option linter.unusedSimpArgs false
set_option maxRecDepth 100000
namespace Go.Proofs.YthgllnnlngihoaaGreat.Sx
open Go.RowKit

def lsAt (ss : List SightD) (k : Nat) : ByteArray := (ss.getD k sightD).ls
section
variable (ss : List SightD) (cs : List Int)
/-- The letters as they stand behind the k-th sight; from which sight on they are the same stone's; whether they agree up to there. -/
def cur : Nat → ByteArray
  | 0 => lsAt ss 0
  | k + 1 => if cs.getD k 0 = 2 then lsAt ss (k + 1) else blendS (cur k) (lsAt ss (k + 1))
def fromK : Nat → Nat
  | 0 => 0
  | k + 1 => if cs.getD k 0 = 2 then k + 1 else fromK k
def fromTo : Nat → Nat
  | 0 => 0
  | k + 1 => fromK cs k
def letTo : Nat → Bool
  | 0 => true
  | k + 1 => letTo k && (decide (cs.getD k 0 = 2) || blendOk (cur ss cs k) (lsAt ss (k + 1)))
def letOut : Nat → Nat → ByteArray
  | 0, _ => ⟨#[]⟩
  | k + 1, e => if fromK cs k ≤ e then cur ss cs k else letOut k e
def letOk : Bool := letTo ss cs (ss.length - 1)
def letR : List ByteArray := bif letOk ss cs then (List.range ss.length).map (letOut ss cs ss.length) else []
end
theorem fromK_le (cs : List Int) : ∀ k, fromK cs k ≤ k
  | 0 => Nat.le_refl _
  | k + 1 => by
    unfold fromK
    split
    · exact Nat.le_refl _
    · have := fromK_le cs k; omega
theorem letTo_no {ss : List SightD} {cs : List Int} : ∀ {n k : Nat}, k ≤ n → letTo ss cs k = false → letTo ss cs n = false
  | 0, k, h, hk => by
    obtain rfl : k = 0 := by omega
    exact hk
  | n + 1, k, h, hk => by
    rcases Nat.lt_or_ge n k with h1 | h1
    · obtain rfl : k = n + 1 := by omega
      exact hk
    · unfold letTo
      rw [letTo_no h1 hk, Bool.false_and]
def textRowT (xs : Unit → List ByteArray) : Ob := .row .own 9 1 (.sy (fun _ => (xs ()).length) 0) fun e => encText fun _ => (xs ()).getD e textD
theorem textT_le (xs : Unit → List ByteArray) (τ : Nat → Option Src) : ObLe τ (textRowT xs) (textRowT xs) := rowOf_le textCod .own (xs ()) τ
def tRow (n : Unit → Nat) (f : Nat → ByteArray) : Ob := .row .own 9 1 (.sy n 0) fun e => encText fun _ => f e
structure LetIn (ss : List SightD) (cs : List Int) : Prop where
  pos : 0 < ss.length
  few : ss.length ≤ 1000
  len : cs.length + 1 = ss.length
def spLetters : Spec := fun args M base => match args with
  | [.agg [.i .i64 st0, .i .i64 pl0, .i .i64 sk0, c, d], .one e] =>
    ⟨In fun _ => okSights M c ∧ okNotes M d ∧ okInts M e ∧ LetIn (sights M c) (ints M e), .tup [.one (.ref base), .one (.b (.sy fun _ => letOk (sights M c) (ints M e)))], [textRowT fun _ => letR (sights M c) (ints M e)], [], (seen M c).reads ++ (seen M d).reads ++ (seen M e).reads⟩
  | _ => bad
theorem congrLetters : spLetters.Congr := by
  intro args M M' base hs h
  unfold spLetters at *
  split at hs
  · simp only [okSights, okNotes, okInts, sights, notes, ints] at h ⊢
    rw [seen_congr (M := M) (M' := M') (fun i hi => h i (List.mem_append_left _ (List.mem_append_left _ hi))), seen_congr (M := M) (M' := M') (fun i hi => h i (List.mem_append_left _ (List.mem_append_right _ hi))), seen_congr (M := M) (M' := M') (fun i hi => h i (List.mem_append_right _ hi))]
  · exact hs.elim
def letPost (ss : List SightD) (cs : List Int) (x : Exit) (s : St) : Prop := isRet x ∧ (resultI tab Tryz.f146.results.toList s.S.get (lget s.M)).1 ∧ ∃ js, FinBy tab Tryz.f146.results.toList js s (.tup [.one (.ref 0), .one (.b (.sy fun _ => letOk ss cs))]) [textRowT fun _ => letR ss cs]
def inAt (ss : List SightD) (cs : List Int) (k m e : Nat) : ByteArray := if (fromK cs k ≤ e ∧ e < m) ∨ e = k then cur ss cs k else letOut ss cs k e
theorem let_vc {st0 pl0 sk0 : Int} {ss : List SightD} {ns : List NoteD} {cs : List Int} (hn : 0 < ss.length) (hsz : ss.length ≤ 1000) (hcs : cs.length + 1 = ss.length) (B : Nat) :
    vc (en [(36, spBlend)]) ⟨fun _ => none, B, fun _ => False, Tryz.f146.ntmps, none⟩ (fbody Tryz.f146) (start [.agg [.i .i64 (.sy fun _ => st0), .i .i64 (.sy fun _ => pl0), .i .i64 (.sy fun _ => sk0), .ref 0, .ref 1], .one (.ref 2)] [sightRow .ro ss, noteRow .ro ns, intRow .ro cs]) (letPost ss cs) := by
  cbv
  simp only [implies_true, and_true, true_and, IX.v_lit, IX.v_nat, IX.v_sy, BX.v_lit, BX.v_sy, NX.v_lit, NX.v_sy, addN, in_true, eq_self, Nat.succ_eq_add_one, intD_eq, encInt_le, encText_le, encSpan_le, encPair_le, encBox_le, encNote_le, encSight_le, cell_i_le, Nat.add_zero, Int.toNat_natCast, Nat.lt_irrefl, if_false, and_self, ncast, imp_self, in_self, in_self2, in_and, Int.cast_ofNat_Int, in_and2, ltB_t, ltB_f, leB_t, leB_f, eqB_t, eqB_f, ltNB_t, ltNB_f, leNB_t, leNB_f, eqNB_t, eqNB_f, noT, noF, Bool.and_eq_true, Bool.or_eq_true, Bool.and_eq_false_iff, Bool.or_eq_false_iff]
  refine ⟨{i : Nat // i ≤ ss.length ∧ letTo ss cs (i - 1) = true}, fun i => ⟨[(1, .lit true, .one (.ref 2)), (2, .lit true, .one (.ref 3)), (6, .lit true, .one (.ref 4)), (7, .lit true, cint .i64 (.nat (fun _ => fromTo cs i.1) 0)), (15, .lit true, .one (.ref 0)), (16, .lit true, cint .i64 (.nat (fun _ => ss.length) 0)), (17, .lit true, .one (.i .i64 (natI i.1)))], [(0, sightRow .ro ss), (1, noteRow .ro ns), (2, intRow .ro cs), (3, .box true 27 [.i .i64 (.sy fun _ => st0), .i .i64 (.sy fun _ => pl0), .i .i64 (.sy fun _ => sk0), .ref 0, .ref 1]), (4, tRow (fun _ => i.1) (letOut ss cs i.1))], 5⟩, fun i => ss.length - i.1, ⟨0, by omega, rfl⟩, LeBy.le (pins := []) (fun i u h => by cases h) (l := [(0, .old 0), (1, .old 1), (2, .old 2), (3, .old 3), (4, .nil)]) ?_, fun i => ?_⟩
  · cbv
    simp only [implies_true, and_true, true_and, IX.v_lit, IX.v_nat, IX.v_sy, BX.v_lit, BX.v_sy, NX.v_lit, NX.v_sy, addN, in_true, eq_self, Nat.succ_eq_add_one, intD_eq, encInt_le, encText_le, encSpan_le, encPair_le, encBox_le, encNote_le, encSight_le, cell_i_le, Nat.add_zero, Int.toNat_natCast, Nat.lt_irrefl, if_false, and_self, ncast, imp_self, in_self, in_self2, in_and, Int.cast_ofNat_Int, in_and2, ltB_t, ltB_f, leB_t, leB_f, eqB_t, eqB_f, ltNB_t, ltNB_f, leNB_t, leNB_f, eqNB_t, eqNB_f, noT, noF, Bool.and_eq_true, Bool.or_eq_true, Bool.and_eq_false_iff, Bool.or_eq_false_iff]
    exact ⟨rfl⟩
  · obtain ⟨i, hi, hf⟩ := i
    rcases i with _ | j
    · cbv
      simp only [implies_true, and_true, true_and, IX.v_lit, IX.v_nat, IX.v_sy, BX.v_lit, BX.v_sy, NX.v_lit, NX.v_sy, addN, in_true, eq_self, Nat.succ_eq_add_one, intD_eq, encInt_le, encText_le, encSpan_le, encPair_le, encBox_le, encNote_le, encSight_le, cell_i_le, Nat.add_zero, Int.toNat_natCast, Nat.lt_irrefl, if_false, and_self, ncast, imp_self, in_self, in_self2, in_and, Int.cast_ofNat_Int, in_and2, ltB_t, ltB_f, leB_t, leB_f, eqB_t, eqB_f, ltNB_t, ltNB_f, leNB_t, leNB_f, eqNB_t, eqNB_f, noT, noF, Bool.and_eq_true, Bool.or_eq_true, Bool.and_eq_false_iff, Bool.or_eq_false_iff]
      refine ⟨fun hlt => ?_, fun hlt => by (first | omega | (simp only [ncast] at *; omega))⟩
      cbv
      simp only [implies_true, and_true, true_and, IX.v_lit, IX.v_nat, IX.v_sy, BX.v_lit, BX.v_sy, NX.v_lit, NX.v_sy, addN, in_true, eq_self, Nat.succ_eq_add_one, intD_eq, encInt_le, encText_le, encSpan_le, encPair_le, encBox_le, encNote_le, encSight_le, cell_i_le, Nat.add_zero, Int.toNat_natCast, Nat.lt_irrefl, if_false, and_self, ncast, imp_self, in_self, in_self2, in_and, Int.cast_ofNat_Int, in_and2, ltB_t, ltB_f, leB_t, leB_f, eqB_t, eqB_f, ltNB_t, ltNB_f, leNB_t, leNB_f, eqNB_t, eqNB_f, noT, noF, Bool.and_eq_true, Bool.or_eq_true, Bool.and_eq_false_iff, Bool.or_eq_false_iff]
      refine ⟨⟨by omega⟩, ⟨by omega⟩, ⟨by decide, by decide⟩, Unit, fun _ => ⟨[(1, .lit true, .one (.ref 2)), (2, .lit true, .one (.ref 3)), (6, .lit true, .one (.ref 4)), (7, .lit true, cint .i64 (.lit 0)), (8, .lit true, cint .i64 (.lit 0)), (10, .lit true, .one (.s fun _ => lsAt ss 0)), (13, .lit true, cint .i64 (.lit 0)), (15, .lit true, .one (.ref 0)), (16, .lit true, cint .i64 (.nat (fun _ => ss.length) 0)), (17, .lit true, cint .i64 (.lit 0))], [(0, sightRow .ro ss), (1, noteRow .ro ns), (2, intRow .ro cs), (3, .box true 27 [.i .i64 (.sy fun _ => st0), .i .i64 (.sy fun _ => pl0), .i .i64 (.sy fun _ => sk0), .ref 0, .ref 1]), (4, tRow (fun _ => 1) fun _ => lsAt ss 0)], 5⟩, fun _ => 0, (), LeBy.le (pins := []) (fun i u h => by cases h) (l := [(0, .old 0), (1, .old 1), (2, .old 2), (3, .old 3), (4, .old 7)]) ?_, fun m => ?_⟩
      · cbv
        simp only [implies_true, and_true, true_and, IX.v_lit, IX.v_nat, IX.v_sy, BX.v_lit, BX.v_sy, NX.v_lit, NX.v_sy, addN, in_true, eq_self, Nat.succ_eq_add_one, intD_eq, encInt_le, encText_le, encSpan_le, encPair_le, encBox_le, encNote_le, encSight_le, cell_i_le, Nat.add_zero, Int.toNat_natCast, Nat.lt_irrefl, if_false, and_self, ncast, imp_self, in_self, in_self2, in_and, Int.cast_ofNat_Int, in_and2, ltB_t, ltB_f, leB_t, leB_f, eqB_t, eqB_f, ltNB_t, ltNB_f, leNB_t, leNB_f, eqNB_t, eqNB_f, noT, noF, Bool.and_eq_true, Bool.or_eq_true, Bool.and_eq_false_iff, Bool.or_eq_false_iff]
        refine ⟨⟨fun e he => ?_⟩, ⟨rfl⟩⟩
        obtain rfl : e = 0 := by omega
        exact ⟨⟨rfl⟩, trivial⟩
      · cbv
        simp only [implies_true, and_true, true_and, IX.v_lit, IX.v_nat, IX.v_sy, BX.v_lit, BX.v_sy, NX.v_lit, NX.v_sy, addN, in_true, eq_self, Nat.succ_eq_add_one, intD_eq, encInt_le, encText_le, encSpan_le, encPair_le, encBox_le, encNote_le, encSight_le, cell_i_le, Nat.add_zero, Int.toNat_natCast, Nat.lt_irrefl, if_false, and_self, ncast, imp_self, in_self, in_self2, in_and, Int.cast_ofNat_Int, in_and2, ltB_t, ltB_f, leB_t, leB_f, eqB_t, eqB_f, ltNB_t, ltNB_f, leNB_t, leNB_f, eqNB_t, eqNB_f, noT, noF, Bool.and_eq_true, Bool.or_eq_true, Bool.and_eq_false_iff, Bool.or_eq_false_iff]
        refine ⟨⟨by unfold fitsK; omega⟩, ⟨1, hn, rfl⟩, LeBy.le (pins := []) (fun i u h => by cases h) (l := [(0, .old 0), (1, .old 1), (2, .old 2), (3, .old 3), (4, .old 4)]) ?_, by show ss.length - 1 < ss.length - 0; omega⟩
        cbv
        simp only [implies_true, and_true, true_and, IX.v_lit, IX.v_nat, IX.v_sy, BX.v_lit, BX.v_sy, NX.v_lit, NX.v_sy, addN, in_true, eq_self, Nat.succ_eq_add_one, intD_eq, encInt_le, encText_le, encSpan_le, encPair_le, encBox_le, encNote_le, encSight_le, cell_i_le, Nat.add_zero, Int.toNat_natCast, Nat.lt_irrefl, if_false, and_self, ncast, imp_self, in_self, in_self2, in_and, Int.cast_ofNat_Int, in_and2, ltB_t, ltB_f, leB_t, leB_f, eqB_t, eqB_f, ltNB_t, ltNB_f, leNB_t, leNB_f, eqNB_t, eqNB_f, noT, noF, Bool.and_eq_true, Bool.or_eq_true, Bool.and_eq_false_iff, Bool.or_eq_false_iff]
        refine ⟨⟨fun e he => ?_⟩, ⟨rfl⟩, ⟨rfl⟩⟩
        obtain rfl : e = 0 := by omega
        exact ⟨⟨rfl⟩, trivial⟩
    · cbv
      simp only [implies_true, and_true, true_and, IX.v_lit, IX.v_nat, IX.v_sy, BX.v_lit, BX.v_sy, NX.v_lit, NX.v_sy, addN, in_true, eq_self, Nat.succ_eq_add_one, intD_eq, encInt_le, encText_le, encSpan_le, encPair_le, encBox_le, encNote_le, encSight_le, cell_i_le, Nat.add_zero, Int.toNat_natCast, Nat.lt_irrefl, if_false, and_self, ncast, imp_self, in_self, in_self2, in_and, Int.cast_ofNat_Int, in_and2, ltB_t, ltB_f, leB_t, leB_f, eqB_t, eqB_f, ltNB_t, ltNB_f, leNB_t, leNB_f, eqNB_t, eqNB_f, noT, noF, Bool.and_eq_true, Bool.or_eq_true, Bool.and_eq_false_iff, Bool.or_eq_false_iff]
      refine ⟨fun hlt => ?_, fun hlt => ?_⟩
      · have hlt : j + 1 < ss.length := hlt
        have hcu : letOut ss cs (j + 1) j = cur ss cs j := by rw [letOut, if_pos (fromK_le _ _)]
        cbv
        simp only [implies_true, and_true, true_and, IX.v_lit, IX.v_nat, IX.v_sy, BX.v_lit, BX.v_sy, NX.v_lit, NX.v_sy, addN, in_true, eq_self, Nat.succ_eq_add_one, intD_eq, encInt_le, encText_le, encSpan_le, encPair_le, encBox_le, encNote_le, encSight_le, cell_i_le, Nat.add_zero, Int.toNat_natCast, Nat.lt_irrefl, if_false, and_self, ncast, imp_self, in_self, in_self2, in_and, Int.cast_ofNat_Int, in_and2, ltB_t, ltB_f, leB_t, leB_f, eqB_t, eqB_f, ltNB_t, ltNB_f, leNB_t, leNB_f, eqNB_t, eqNB_f, noT, noF, Bool.and_eq_true, Bool.or_eq_true, Bool.and_eq_false_iff, Bool.or_eq_false_iff]
        refine ⟨⟨hlt⟩, ⟨hlt⟩, ⟨by unfold fitsK; omega⟩, ⟨by omega⟩, ⟨by omega⟩, fun hne => ?_, fun heq => ?_⟩
        · have hfr : fromK cs (j + 1) = fromK cs j := by rw [fromK, if_neg hne]
          cbv
          simp only [implies_true, and_true, true_and, IX.v_lit, IX.v_nat, IX.v_sy, BX.v_lit, BX.v_sy, NX.v_lit, NX.v_sy, addN, in_true, eq_self, Nat.succ_eq_add_one, intD_eq, encInt_le, encText_le, encSpan_le, encPair_le, encBox_le, encNote_le, encSight_le, cell_i_le, Nat.add_zero, Int.toNat_natCast, Nat.lt_irrefl, if_false, and_self, ncast, imp_self, in_self, in_self2, in_and, Int.cast_ofNat_Int, in_and2, ltB_t, ltB_f, leB_t, leB_f, eqB_t, eqB_f, ltNB_t, ltNB_f, leNB_t, leNB_f, eqNB_t, eqNB_f, noT, noF, Bool.and_eq_true, Bool.or_eq_true, Bool.and_eq_false_iff, Bool.or_eq_false_iff]
          refine ⟨⟨by unfold fitsK; omega⟩, ⟨by omega⟩, ⟨by omega⟩, fun hb => ?_, fun hb => ?_⟩
          · rw [hcu] at hb
            have hno : letOk ss cs = false := letTo_no (k := j + 1) (by omega) (by
              unfold letTo
              rw [show blendOk (cur ss cs j) (lsAt ss (j + 1)) = false from hb, decide_eq_false hne]
              simp)
            cbv
            refine ⟨[.nil], ?_⟩
            cbv
            simp only [implies_true, and_true, true_and, IX.v_lit, IX.v_nat, IX.v_sy, BX.v_lit, BX.v_sy, NX.v_lit, NX.v_sy, addN, in_true, eq_self, Nat.succ_eq_add_one, intD_eq, encInt_le, encText_le, encSpan_le, encPair_le, encBox_le, encNote_le, encSight_le, cell_i_le, Nat.add_zero, Int.toNat_natCast, Nat.lt_irrefl, if_false, and_self, ncast, imp_self, in_self, in_self2, in_and, Int.cast_ofNat_Int, in_and2, ltB_t, ltB_f, leB_t, leB_f, eqB_t, eqB_f, ltNB_t, ltNB_f, leNB_t, leNB_f, eqNB_t, eqNB_f, noT, noF, Bool.and_eq_true, Bool.or_eq_true, Bool.and_eq_false_iff, Bool.or_eq_false_iff]
            exact ⟨⟨by unfold letR; rw [hno]; rfl⟩, ⟨hno⟩⟩
          · rw [hcu] at hb
            have hp : cur ss cs (j + 1) = blendS (letOut ss cs (j + 1) j) (lsAt ss (j + 1)) := by rw [cur, if_neg hne, hcu]
            have hgo : (decide (cs.getD j 0 = 2) || blendOk (cur ss cs j) (lsAt ss (j + 1))) = true := by rw [show blendOk (cur ss cs j) (lsAt ss (j + 1)) = true from hb, Bool.or_true]
            cbv
            simp only [implies_true, and_true, true_and, IX.v_lit, IX.v_nat, IX.v_sy, BX.v_lit, BX.v_sy, NX.v_lit, NX.v_sy, addN, in_true, eq_self, Nat.succ_eq_add_one, intD_eq, encInt_le, encText_le, encSpan_le, encPair_le, encBox_le, encNote_le, encSight_le, cell_i_le, Nat.add_zero, Int.toNat_natCast, Nat.lt_irrefl, if_false, and_self, ncast, imp_self, in_self, in_self2, in_and, Int.cast_ofNat_Int, in_and2, ltB_t, ltB_f, leB_t, leB_f, eqB_t, eqB_f, ltNB_t, ltNB_f, leNB_t, leNB_f, eqNB_t, eqNB_f, noT, noF, Bool.and_eq_true, Bool.or_eq_true, Bool.and_eq_false_iff, Bool.or_eq_false_iff]
            obtain ⟨m0, hm0⟩ : ∃ m0, m0 = fromK cs (j + 1) := ⟨_, rfl⟩
            have hm0' := fromK_le cs (j + 1)
            refine ⟨⟨by omega, by omega⟩, {m : Nat // fromK cs (j + 1) ≤ m ∧ m ≤ j + 1}, fun m => ⟨[(1, .lit true, .one (.ref 2)), (2, .lit true, .one (.ref 3)), (6, .lit true, .one (.ref 4)), (7, .lit true, cint .i64 (.nat (fun _ => fromK cs (j + 1)) 0)), (8, .lit true, cint .i64 (.nat (fun _ => j) 1)), (10, .lit true, .one (.s fun _ => cur ss cs (j + 1))), (13, .lit true, cint .i64 (.nat (fun _ => m.1) 0)), (15, .lit true, .one (.ref 0)), (16, .lit true, cint .i64 (.nat (fun _ => ss.length) 0)), (17, .lit true, cint .i64 (.nat (fun _ => j) 1))], [(0, sightRow .ro ss), (1, noteRow .ro ns), (2, intRow .ro cs), (3, .box true 27 [.i .i64 (.sy fun _ => st0), .i .i64 (.sy fun _ => pl0), .i .i64 (.sy fun _ => sk0), .ref 0, .ref 1]), (4, tRow (fun _ => j + 2) (inAt ss cs (j + 1) m.1))], 5⟩, fun m => j + 1 - m.1, ⟨m0, by omega, by omega⟩, LeBy.le (pins := []) (fun i u h => by cases h) (l := [(0, .old 0), (1, .old 1), (2, .old 2), (3, .old 3), (4, .old 7)]) ?_, fun m => ?_⟩
            · cbv
              simp only [implies_true, and_true, true_and, IX.v_lit, IX.v_nat, IX.v_sy, BX.v_lit, BX.v_sy, NX.v_lit, NX.v_sy, addN, in_true, eq_self, Nat.succ_eq_add_one, intD_eq, encInt_le, encText_le, encSpan_le, encPair_le, encBox_le, encNote_le, encSight_le, cell_i_le, Nat.add_zero, Int.toNat_natCast, Nat.lt_irrefl, if_false, and_self, ncast, imp_self, in_self, in_self2, in_and, Int.cast_ofNat_Int, in_and2, ltB_t, ltB_f, leB_t, leB_f, eqB_t, eqB_f, ltNB_t, ltNB_f, leNB_t, leNB_f, eqNB_t, eqNB_f, noT, noF, Bool.and_eq_true, Bool.or_eq_true, Bool.and_eq_false_iff, Bool.or_eq_false_iff]
              refine ⟨⟨fun e he => ?_⟩, ⟨?_⟩, ⟨?_⟩, ⟨?_⟩⟩
              · have hin : inAt ss cs (j + 1) m0 e = if e < j + 1 then letOut ss cs (j + 1) e else cur ss cs (j + 1) := by
                  unfold inAt
                  by_cases h1 : e < j + 1
                  · rw [if_pos h1, if_neg (by omega)]
                  · rw [if_neg h1, if_pos (by omega)]
                rw [hin]
                by_cases h1 : e < j + 1
                · simp only [h1, if_true, encText_le]
                · simp only [h1, if_false]
                  obtain rfl : e = j + 1 := by omega
                  rw [Nat.sub_self]
                  exact ⟨⟨hp⟩, trivial⟩
              all_goals first | exact hp | exact hfr | exact hm0.trans hfr
            · obtain ⟨m, hm1, hm2⟩ := m
              cbv
              simp only [implies_true, and_true, true_and, IX.v_lit, IX.v_nat, IX.v_sy, BX.v_lit, BX.v_sy, NX.v_lit, NX.v_sy, addN, in_true, eq_self, Nat.succ_eq_add_one, intD_eq, encInt_le, encText_le, encSpan_le, encPair_le, encBox_le, encNote_le, encSight_le, cell_i_le, Nat.add_zero, Int.toNat_natCast, Nat.lt_irrefl, if_false, and_self, ncast, imp_self, in_self, in_self2, in_and, Int.cast_ofNat_Int, in_and2, ltB_t, ltB_f, leB_t, leB_f, eqB_t, eqB_f, ltNB_t, ltNB_f, leNB_t, leNB_f, eqNB_t, eqNB_f, noT, noF, Bool.and_eq_true, Bool.or_eq_true, Bool.and_eq_false_iff, Bool.or_eq_false_iff]
              refine ⟨fun hlm => ?_, fun hlm => ?_⟩
              · have hlm : m < j + 1 := hlm
                cbv
                simp only [implies_true, and_true, true_and, IX.v_lit, IX.v_nat, IX.v_sy, BX.v_lit, BX.v_sy, NX.v_lit, NX.v_sy, addN, in_true, eq_self, Nat.succ_eq_add_one, intD_eq, encInt_le, encText_le, encSpan_le, encPair_le, encBox_le, encNote_le, encSight_le, cell_i_le, Nat.add_zero, Int.toNat_natCast, Nat.lt_irrefl, if_false, and_self, ncast, imp_self, in_self, in_self2, in_and, Int.cast_ofNat_Int, in_and2, ltB_t, ltB_f, leB_t, leB_f, eqB_t, eqB_f, ltNB_t, ltNB_f, leNB_t, leNB_f, eqNB_t, eqNB_f, noT, noF, Bool.and_eq_true, Bool.or_eq_true, Bool.and_eq_false_iff, Bool.or_eq_false_iff]
                refine ⟨⟨by omega⟩, ⟨by omega⟩, ⟨by unfold fitsK; omega⟩, ⟨m + 1, by omega, by omega⟩, LeBy.le (pins := []) (fun i u h => by cases h) (l := [(0, .old 0), (1, .old 1), (2, .old 2), (3, .old 3), (4, .old 4)]) ?_, by show j + 1 - (m + 1) < j + 1 - m; omega⟩
                cbv
                simp only [implies_true, and_true, true_and, IX.v_lit, IX.v_nat, IX.v_sy, BX.v_lit, BX.v_sy, NX.v_lit, NX.v_sy, addN, in_true, eq_self, Nat.succ_eq_add_one, intD_eq, encInt_le, encText_le, encSpan_le, encPair_le, encBox_le, encNote_le, encSight_le, cell_i_le, Nat.add_zero, Int.toNat_natCast, Nat.lt_irrefl, if_false, and_self, ncast, imp_self, in_self, in_self2, in_and, Int.cast_ofNat_Int, in_and2, ltB_t, ltB_f, leB_t, leB_f, eqB_t, eqB_f, ltNB_t, ltNB_f, leNB_t, leNB_f, eqNB_t, eqNB_f, noT, noF, Bool.and_eq_true, Bool.or_eq_true, Bool.and_eq_false_iff, Bool.or_eq_false_iff]
                refine ⟨fun e he => ?_⟩
                by_cases h1 : e = m
                · subst h1
                  have hin : inAt ss cs (j + 1) (e + 1) e = cur ss cs (j + 1) := by unfold inAt; rw [if_pos (by omega)]
                  simp only [if_true]
                  rw [show (fun x : PUnit => inAt ss cs (j + 1) (e + 1) e) = fun _ => cur ss cs (j + 1) from funext fun _ => hin]
                  exact ⟨⟨rfl⟩, trivial⟩
                · have hin : inAt ss cs (j + 1) (m + 1) e = inAt ss cs (j + 1) m e := by
                    unfold inAt
                    by_cases h2 : (fromK cs (j + 1) ≤ e ∧ e < m) ∨ e = j + 1
                    · rw [if_pos h2, if_pos (by omega)]
                    · rw [if_neg h2, if_neg (by omega)]
                  simp only [h1, if_false]
                  rw [hin]
                  exact closedL_le rfl
              · obtain rfl : m = j + 1 := by omega
                cbv
                simp only [implies_true, and_true, true_and, IX.v_lit, IX.v_nat, IX.v_sy, BX.v_lit, BX.v_sy, NX.v_lit, NX.v_sy, addN, in_true, eq_self, Nat.succ_eq_add_one, intD_eq, encInt_le, encText_le, encSpan_le, encPair_le, encBox_le, encNote_le, encSight_le, cell_i_le, Nat.add_zero, Int.toNat_natCast, Nat.lt_irrefl, if_false, and_self, ncast, imp_self, in_self, in_self2, in_and, Int.cast_ofNat_Int, in_and2, ltB_t, ltB_f, leB_t, leB_f, eqB_t, eqB_f, ltNB_t, ltNB_f, leNB_t, leNB_f, eqNB_t, eqNB_f, noT, noF, Bool.and_eq_true, Bool.or_eq_true, Bool.and_eq_false_iff, Bool.or_eq_false_iff]
                refine ⟨⟨nat_fits (n := ss.length) (by omega) (by omega)⟩, ⟨j + 1 + 1, hlt, by show letTo ss cs (j + 1) = true; unfold letTo; rw [show letTo ss cs j = true from hf, Bool.true_and]; exact hgo⟩, LeBy.le (pins := []) (fun i u h => by cases h) (l := [(0, .old 0), (1, .old 1), (2, .old 2), (3, .old 3), (4, .old 4)]) ?_, by show ss.length - (j + 1 + 1) < ss.length - (j + 1); omega⟩
                cbv
                simp only [implies_true, and_true, true_and, IX.v_lit, IX.v_nat, IX.v_sy, BX.v_lit, BX.v_sy, NX.v_lit, NX.v_sy, addN, in_true, eq_self, Nat.succ_eq_add_one, intD_eq, encInt_le, encText_le, encSpan_le, encPair_le, encBox_le, encNote_le, encSight_le, cell_i_le, Nat.add_zero, Int.toNat_natCast, Nat.lt_irrefl, if_false, and_self, ncast, imp_self, in_self, in_self2, in_and, Int.cast_ofNat_Int, in_and2, ltB_t, ltB_f, leB_t, leB_f, eqB_t, eqB_f, ltNB_t, ltNB_f, leNB_t, leNB_f, eqNB_t, eqNB_f, noT, noF, Bool.and_eq_true, Bool.or_eq_true, Bool.and_eq_false_iff, Bool.or_eq_false_iff]
                refine ⟨⟨fun e he => ?_⟩, ⟨rfl⟩⟩
                have hin : inAt ss cs (j + 1) (j + 1) e = letOut ss cs (j + 1 + 1) e := by
                  rw [letOut]
                  unfold inAt
                  have := fromK_le cs (j + 1)
                  by_cases h2 : fromK cs (j + 1) ≤ e
                  · rw [if_pos h2, if_pos (by omega)]
                  · rw [if_neg h2, if_neg (by omega)]
                rw [hin]
                exact closedL_le rfl
        · have hfr : fromK cs (j + 1) = j + 1 := by rw [fromK, if_pos heq]
          have hp : cur ss cs (j + 1) = lsAt ss (j + 1) := by rw [cur, if_pos heq]
          have hgo : (decide (cs.getD j 0 = 2) || blendOk (cur ss cs j) (lsAt ss (j + 1))) = true := by rw [decide_eq_true heq, Bool.true_or]
          cbv
          simp only [implies_true, and_true, true_and, IX.v_lit, IX.v_nat, IX.v_sy, BX.v_lit, BX.v_sy, NX.v_lit, NX.v_sy, addN, in_true, eq_self, Nat.succ_eq_add_one, intD_eq, encInt_le, encText_le, encSpan_le, encPair_le, encBox_le, encNote_le, encSight_le, cell_i_le, Nat.add_zero, Int.toNat_natCast, Nat.lt_irrefl, if_false, and_self, ncast, imp_self, in_self, in_self2, in_and, Int.cast_ofNat_Int, in_and2, ltB_t, ltB_f, leB_t, leB_f, eqB_t, eqB_f, ltNB_t, ltNB_f, leNB_t, leNB_f, eqNB_t, eqNB_f, noT, noF, Bool.and_eq_true, Bool.or_eq_true, Bool.and_eq_false_iff, Bool.or_eq_false_iff]
          obtain ⟨m0, hm0⟩ : ∃ m0, m0 = fromK cs (j + 1) := ⟨_, rfl⟩
          have hm0' := fromK_le cs (j + 1)
          refine ⟨⟨by omega, by omega⟩, {m : Nat // fromK cs (j + 1) ≤ m ∧ m ≤ j + 1}, fun m => ⟨[(1, .lit true, .one (.ref 2)), (2, .lit true, .one (.ref 3)), (6, .lit true, .one (.ref 4)), (7, .lit true, cint .i64 (.nat (fun _ => fromK cs (j + 1)) 0)), (8, .lit true, cint .i64 (.nat (fun _ => j) 1)), (10, .lit true, .one (.s fun _ => cur ss cs (j + 1))), (13, .lit true, cint .i64 (.nat (fun _ => m.1) 0)), (15, .lit true, .one (.ref 0)), (16, .lit true, cint .i64 (.nat (fun _ => ss.length) 0)), (17, .lit true, cint .i64 (.nat (fun _ => j) 1))], [(0, sightRow .ro ss), (1, noteRow .ro ns), (2, intRow .ro cs), (3, .box true 27 [.i .i64 (.sy fun _ => st0), .i .i64 (.sy fun _ => pl0), .i .i64 (.sy fun _ => sk0), .ref 0, .ref 1]), (4, tRow (fun _ => j + 2) (inAt ss cs (j + 1) m.1))], 5⟩, fun m => j + 1 - m.1, ⟨m0, by omega, by omega⟩, LeBy.le (pins := []) (fun i u h => by cases h) (l := [(0, .old 0), (1, .old 1), (2, .old 2), (3, .old 3), (4, .old 7)]) ?_, fun m => ?_⟩
          · cbv
            simp only [implies_true, and_true, true_and, IX.v_lit, IX.v_nat, IX.v_sy, BX.v_lit, BX.v_sy, NX.v_lit, NX.v_sy, addN, in_true, eq_self, Nat.succ_eq_add_one, intD_eq, encInt_le, encText_le, encSpan_le, encPair_le, encBox_le, encNote_le, encSight_le, cell_i_le, Nat.add_zero, Int.toNat_natCast, Nat.lt_irrefl, if_false, and_self, ncast, imp_self, in_self, in_self2, in_and, Int.cast_ofNat_Int, in_and2, ltB_t, ltB_f, leB_t, leB_f, eqB_t, eqB_f, ltNB_t, ltNB_f, leNB_t, leNB_f, eqNB_t, eqNB_f, noT, noF, Bool.and_eq_true, Bool.or_eq_true, Bool.and_eq_false_iff, Bool.or_eq_false_iff]
            refine ⟨⟨fun e he => ?_⟩, ⟨?_⟩, ⟨?_⟩, ⟨?_⟩⟩
            · have hin : inAt ss cs (j + 1) m0 e = if e < j + 1 then letOut ss cs (j + 1) e else cur ss cs (j + 1) := by
                unfold inAt
                by_cases h1 : e < j + 1
                · rw [if_pos h1, if_neg (by omega)]
                · rw [if_neg h1, if_pos (by omega)]
              rw [hin]
              by_cases h1 : e < j + 1
              · simp only [h1, if_true, encText_le]
              · simp only [h1, if_false]
                obtain rfl : e = j + 1 := by omega
                rw [Nat.sub_self]
                exact ⟨⟨hp⟩, trivial⟩
            all_goals first | exact hp | exact hfr | exact hm0.trans hfr
          · obtain ⟨m, hm1, hm2⟩ := m
            cbv
            simp only [implies_true, and_true, true_and, IX.v_lit, IX.v_nat, IX.v_sy, BX.v_lit, BX.v_sy, NX.v_lit, NX.v_sy, addN, in_true, eq_self, Nat.succ_eq_add_one, intD_eq, encInt_le, encText_le, encSpan_le, encPair_le, encBox_le, encNote_le, encSight_le, cell_i_le, Nat.add_zero, Int.toNat_natCast, Nat.lt_irrefl, if_false, and_self, ncast, imp_self, in_self, in_self2, in_and, Int.cast_ofNat_Int, in_and2, ltB_t, ltB_f, leB_t, leB_f, eqB_t, eqB_f, ltNB_t, ltNB_f, leNB_t, leNB_f, eqNB_t, eqNB_f, noT, noF, Bool.and_eq_true, Bool.or_eq_true, Bool.and_eq_false_iff, Bool.or_eq_false_iff]
            refine ⟨fun hlm => ?_, fun hlm => ?_⟩
            · have hlm : m < j + 1 := hlm
              cbv
              simp only [implies_true, and_true, true_and, IX.v_lit, IX.v_nat, IX.v_sy, BX.v_lit, BX.v_sy, NX.v_lit, NX.v_sy, addN, in_true, eq_self, Nat.succ_eq_add_one, intD_eq, encInt_le, encText_le, encSpan_le, encPair_le, encBox_le, encNote_le, encSight_le, cell_i_le, Nat.add_zero, Int.toNat_natCast, Nat.lt_irrefl, if_false, and_self, ncast, imp_self, in_self, in_self2, in_and, Int.cast_ofNat_Int, in_and2, ltB_t, ltB_f, leB_t, leB_f, eqB_t, eqB_f, ltNB_t, ltNB_f, leNB_t, leNB_f, eqNB_t, eqNB_f, noT, noF, Bool.and_eq_true, Bool.or_eq_true, Bool.and_eq_false_iff, Bool.or_eq_false_iff]
              refine ⟨⟨by omega⟩, ⟨by omega⟩, ⟨by unfold fitsK; omega⟩, ⟨m + 1, by omega, by omega⟩, LeBy.le (pins := []) (fun i u h => by cases h) (l := [(0, .old 0), (1, .old 1), (2, .old 2), (3, .old 3), (4, .old 4)]) ?_, by show j + 1 - (m + 1) < j + 1 - m; omega⟩
              cbv
              simp only [implies_true, and_true, true_and, IX.v_lit, IX.v_nat, IX.v_sy, BX.v_lit, BX.v_sy, NX.v_lit, NX.v_sy, addN, in_true, eq_self, Nat.succ_eq_add_one, intD_eq, encInt_le, encText_le, encSpan_le, encPair_le, encBox_le, encNote_le, encSight_le, cell_i_le, Nat.add_zero, Int.toNat_natCast, Nat.lt_irrefl, if_false, and_self, ncast, imp_self, in_self, in_self2, in_and, Int.cast_ofNat_Int, in_and2, ltB_t, ltB_f, leB_t, leB_f, eqB_t, eqB_f, ltNB_t, ltNB_f, leNB_t, leNB_f, eqNB_t, eqNB_f, noT, noF, Bool.and_eq_true, Bool.or_eq_true, Bool.and_eq_false_iff, Bool.or_eq_false_iff]
              refine ⟨fun e he => ?_⟩
              by_cases h1 : e = m
              · subst h1
                have hin : inAt ss cs (j + 1) (e + 1) e = cur ss cs (j + 1) := by unfold inAt; rw [if_pos (by omega)]
                simp only [if_true]
                rw [show (fun x : PUnit => inAt ss cs (j + 1) (e + 1) e) = fun _ => cur ss cs (j + 1) from funext fun _ => hin]
                exact ⟨⟨rfl⟩, trivial⟩
              · have hin : inAt ss cs (j + 1) (m + 1) e = inAt ss cs (j + 1) m e := by
                  unfold inAt
                  by_cases h2 : (fromK cs (j + 1) ≤ e ∧ e < m) ∨ e = j + 1
                  · rw [if_pos h2, if_pos (by omega)]
                  · rw [if_neg h2, if_neg (by omega)]
                simp only [h1, if_false]
                rw [hin]
                exact closedL_le rfl
            · obtain rfl : m = j + 1 := by omega
              cbv
              simp only [implies_true, and_true, true_and, IX.v_lit, IX.v_nat, IX.v_sy, BX.v_lit, BX.v_sy, NX.v_lit, NX.v_sy, addN, in_true, eq_self, Nat.succ_eq_add_one, intD_eq, encInt_le, encText_le, encSpan_le, encPair_le, encBox_le, encNote_le, encSight_le, cell_i_le, Nat.add_zero, Int.toNat_natCast, Nat.lt_irrefl, if_false, and_self, ncast, imp_self, in_self, in_self2, in_and, Int.cast_ofNat_Int, in_and2, ltB_t, ltB_f, leB_t, leB_f, eqB_t, eqB_f, ltNB_t, ltNB_f, leNB_t, leNB_f, eqNB_t, eqNB_f, noT, noF, Bool.and_eq_true, Bool.or_eq_true, Bool.and_eq_false_iff, Bool.or_eq_false_iff]
              refine ⟨⟨nat_fits (n := ss.length) (by omega) (by omega)⟩, ⟨j + 1 + 1, hlt, by show letTo ss cs (j + 1) = true; unfold letTo; rw [show letTo ss cs j = true from hf, Bool.true_and]; exact hgo⟩, LeBy.le (pins := []) (fun i u h => by cases h) (l := [(0, .old 0), (1, .old 1), (2, .old 2), (3, .old 3), (4, .old 4)]) ?_, by show ss.length - (j + 1 + 1) < ss.length - (j + 1); omega⟩
              cbv
              simp only [implies_true, and_true, true_and, IX.v_lit, IX.v_nat, IX.v_sy, BX.v_lit, BX.v_sy, NX.v_lit, NX.v_sy, addN, in_true, eq_self, Nat.succ_eq_add_one, intD_eq, encInt_le, encText_le, encSpan_le, encPair_le, encBox_le, encNote_le, encSight_le, cell_i_le, Nat.add_zero, Int.toNat_natCast, Nat.lt_irrefl, if_false, and_self, ncast, imp_self, in_self, in_self2, in_and, Int.cast_ofNat_Int, in_and2, ltB_t, ltB_f, leB_t, leB_f, eqB_t, eqB_f, ltNB_t, ltNB_f, leNB_t, leNB_f, eqNB_t, eqNB_f, noT, noF, Bool.and_eq_true, Bool.or_eq_true, Bool.and_eq_false_iff, Bool.or_eq_false_iff]
              refine ⟨⟨fun e he => ?_⟩, ⟨rfl⟩⟩
              have hin : inAt ss cs (j + 1) (j + 1) e = letOut ss cs (j + 1 + 1) e := by
                rw [letOut]
                unfold inAt
                have := fromK_le cs (j + 1)
                by_cases h2 : fromK cs (j + 1) ≤ e
                · rw [if_pos h2, if_pos (by omega)]
                · rw [if_neg h2, if_neg (by omega)]
              rw [hin]
              exact closedL_le rfl
      · have hlen : ss.length = j + 1 := by omega
        have hT : letOk ss cs = true := by unfold letOk; rw [hlen]; exact hf
        cbv
        refine ⟨[.old 4], ?_⟩
        cbv
        simp only [implies_true, and_true, true_and, IX.v_lit, IX.v_nat, IX.v_sy, BX.v_lit, BX.v_sy, NX.v_lit, NX.v_sy, addN, in_true, eq_self, Nat.succ_eq_add_one, intD_eq, encInt_le, encText_le, encSpan_le, encPair_le, encBox_le, encNote_le, encSight_le, cell_i_le, Nat.add_zero, Int.toNat_natCast, Nat.lt_irrefl, if_false, and_self, ncast, imp_self, in_self, in_self2, in_and, Int.cast_ofNat_Int, in_and2, ltB_t, ltB_f, leB_t, leB_f, eqB_t, eqB_f, ltNB_t, ltNB_f, leNB_t, leNB_f, eqNB_t, eqNB_f, noT, noF, Bool.and_eq_true, Bool.or_eq_true, Bool.and_eq_false_iff, Bool.or_eq_false_iff]
        have hR : letR ss cs = (List.range ss.length).map (letOut ss cs ss.length) := by unfold letR; rw [hT]; rfl
        refine ⟨⟨⟨by rw [hR]; exact (ln_range _ _).trans hlen⟩, ⟨fun e he => ?_⟩⟩, ⟨hT⟩⟩
        rw [show (fun x : PUnit => (letR ss cs).getD e textD) = fun _ => letOut ss cs (j + 1) e from funext fun _ => by rw [hR]; exact (getD_range _ _ (by omega)).trans (by rw [hlen])]
        exact closedL_le rfl
theorem okLetters : SpecOk F0 Tryz.prog 146 spLetters := by
  refine spec_gen (e := en [(36, spBlend)]) (en_ok ⟨okBlend, trivial⟩) rfl (fn := Tryz.f146) (c := fbody Tryz.f146) (by kernel_rfl) rfl rfl (by kernel_rfl) congrLetters fun args M base hs => ?_
  unfold spLetters at hs ⊢
  split at hs
  · rename_i st0 pl0 sk0 c d e
    obtain ⟨k1, k2, k3, ⟨q1, q2, q3⟩⟩ := hs.ok
    refine ⟨[.agg [.i .i64 (.sy fun _ => st0.val), .i .i64 (.sy fun _ => pl0.val), .i .i64 (.sy fun _ => sk0.val), .ref 0, .ref 1], .one (.ref 2)], [sightRow .ro (sights M c), noteRow .ro (notes M d), intRow .ro (ints M e)], fun base => .tup [.one (.ref base), .one (.b (.sy fun _ => letOk (sights M c) (ints M e)))], fun _ => [textRowT fun _ => letR (sights M c) (ints M e)], Nat.le_of_ble_eq_true rfl, ⟨rfl, trivial⟩, .val rfl (.val rfl (.val rfl (.row (sight_from k1) (.row (note_from k2) (.row (int_from k3) .nil))))), rfl, rfl, rfl, ⟨tauN_at (t := 0) (by simp), ⟨rfl⟩, trivial⟩, ⟨textT_le _ _, trivial⟩, (by
      intro ob hob
      rcases List.mem_cons.1 hob with e | h
      · subst e; exact .inl rfl
      · cases h), let_vc q1 q2 q3⟩
  · exact hs.elim
end Go.Proofs.YthgllnnlngihoaaGreat.Sx
end
section
set_option linter.unusedVariables false
set_option linter.unusedSimpArgs false
set_option maxRecDepth 100000
namespace Go.Proofs.YthgllnnlngihoaaGreat.Sx
open Go.RowKit

def spKind1 : Spec := fun args _ _ => match args with
  | [.one (.i .i64 n)] => gives True (cbool (.sy fun _ => !(leB 0 n.val && leB n.val 2)))
  | _ => bad
theorem okKind1 : SpecOk F0 Tryz.prog 171 spKind1 := by
  refine spec_pure (e := en [(81, spWithin)]) (en_ok ⟨okWithin, trivial⟩) rfl (fn := Tryz.f171) (c := fbody Tryz.f171) (by kernel_rfl) rfl rfl (by kernel_rfl) (fun _ _ _ _ => rfl) fun args M base hs => ?_
  unfold spKind1 at hs ⊢
  split at hs
  · refine ⟨Nat.le_of_ble_eq_true rfl, rfl, rfl, rfl, rfl, fun B => ?_⟩
    cbv
    simp only [implies_true, and_true, true_and, IX.v_lit, IX.v_nat, IX.v_sy, BX.v_lit, BX.v_sy, NX.v_lit, NX.v_sy, addN, in_true, eq_self, Nat.succ_eq_add_one, intD_eq, encInt_le, encText_le, encSpan_le, encPair_le, encBox_le, encNote_le, encSight_le, cell_i_le, Nat.add_zero, Int.toNat_natCast, Nat.lt_irrefl, if_false, and_self, ncast, imp_self, in_self, in_self2, in_and, Int.cast_ofNat_Int, in_and2, ltB_t, ltB_f, leB_t, leB_f, eqB_t, eqB_f, ltNB_t, ltNB_f, leNB_t, leNB_f, eqNB_t, eqNB_f, noT, noF, Bool.and_eq_true, Bool.or_eq_true, Bool.and_eq_false_iff, Bool.or_eq_false_iff]
  · exact hs.elim
def badK (cs : List Int) (j : Nat) : Bool := !(leB 0 (cs.getD j 0) && leB (cs.getD j 0) 2)
def firstBad (cs : List Int) : Int := match (List.range cs.length).find? (badK cs) with
  | some j => j
  | none => -1
theorem firstBad_some {cs : List Int} {i : Nat} (h : i < cs.length) (hb : badK cs i = true) (hl : ∀ j, j < i → badK cs j = false) : firstBad cs = i := by
  unfold firstBad
  rw [List.find?_range_eq_some.2 ⟨hb, List.mem_range.2 h, fun j hj => by rw [hl j hj]; rfl⟩]
theorem firstBad_none {cs : List Int} (hl : ∀ j, j < cs.length → badK cs j = false) : firstBad cs = -1 := by
  unfold firstBad
  have : (List.range cs.length).find? (badK cs) = none := List.find?_eq_none.2 fun j hj => by rw [hl j (List.mem_range.1 hj)]; simp
  rw [this]
def spIndex : Spec := fun args M _ => match args with
  | [.one c, .one (.c (.func (.func f) ⟨[]⟩ ⟨[]⟩))] => ⟨isT (Nat.beq f 171) ∧ In fun _ => okInts M c ∧ (ints M c).length ≤ 140737488355328, cint .i64 (.sy fun _ => firstBad (ints M c)), [], [], (seen M c).reads⟩
  | _ => bad
theorem congrIndex : spIndex.Congr := by
  intro args M M' base hs h
  unfold spIndex at *
  split at hs
  · simp only [ints, okInts] at h ⊢
    rw [seen_congr (M := M) (M' := M') h]
  · exact hs.elim
theorem okIndex : SpecOk F0 Tryz.prog 197 spIndex := by
  refine spec_val (e := en [(171, spKind1)]) (en_ok ⟨okKind1, trivial⟩) rfl (fn := Tryz.f197) (c := fbody Tryz.f197) (by kernel_rfl) rfl rfl (by kernel_rfl) congrIndex fun args M base hs => ?_
  unfold spIndex at hs ⊢
  split at hs
  · rename_i c f
    obtain ⟨hf, hs⟩ := hs
    obtain rfl := Nat.eq_of_beq_eq_true (isT_iff.1 hf)
    refine ⟨[.one (.ref 0), .one (.c (.func (.func 171) ⟨[]⟩ ⟨[]⟩))], [intRow .ro (ints M c)], Nat.le_of_ble_eq_true rfl, trivial, .row (int_from hs.ok.1) (.val rfl .nil), rfl, rfl, rfl, fun B => ?_⟩
    have hsz : (ints M c).length ≤ 140737488355328 := hs.ok.2
    clear hs
    show vc _ _ _ _ fun x st => _ ∧ _ ∧ IvLe _ _ (cint .i64 (.sy fun _ => firstBad (ints M c)))
    revert hsz
    generalize ints M c = cs
    intro hsz
    cbv
    simp only [implies_true, and_true, true_and, IX.v_lit, IX.v_nat, IX.v_sy, BX.v_lit, BX.v_sy, NX.v_lit, NX.v_sy, addN, in_true, eq_self, Nat.succ_eq_add_one, intD_eq, encInt_le, encText_le, encSpan_le, encPair_le, encBox_le, encNote_le, encSight_le, cell_i_le, Nat.add_zero, Int.toNat_natCast, Nat.lt_irrefl, if_false, and_self, ncast, imp_self, in_self, in_self2, in_and, Int.cast_ofNat_Int, in_and2, ltB_t, ltB_f, leB_t, leB_f, eqB_t, eqB_f, ltNB_t, ltNB_f, leNB_t, leNB_f, eqNB_t, eqNB_f, noT, noF, Bool.and_eq_true, Bool.or_eq_true, Bool.and_eq_false_iff, Bool.or_eq_false_iff]
    refine ⟨{i : Nat // i ≤ cs.length ∧ ∀ j, j < i → badK cs j = false}, fun i => ⟨[(0, .lit true, .one (.ref 0)), (1, .lit true, .one (.c (.func (.func 171) ⟨[]⟩ ⟨[]⟩))), (7, .lit true, cint .i64 (.nat (fun _ => cs.length) 0)), (8, .lit true, cint .i64 (.nat (fun _ => i.1) 0))], [(0, intRow .ro cs)], 1⟩, fun i => cs.length - i.1, ⟨0, by omega, fun j hj => by omega⟩, LeBy.le (pins := []) (fun i u h => by cases h) (l := [(0, .old 0)]) ?_, fun i => ?_⟩
    · cbv
      simp only [implies_true, and_true, true_and, IX.v_lit, IX.v_nat, IX.v_sy, BX.v_lit, BX.v_sy, NX.v_lit, NX.v_sy, addN, in_true, eq_self, Nat.succ_eq_add_one, intD_eq, encInt_le, encText_le, encSpan_le, encPair_le, encBox_le, encNote_le, encSight_le, cell_i_le, Nat.add_zero, Int.toNat_natCast, Nat.lt_irrefl, if_false, and_self, ncast, imp_self, in_self, in_self2, in_and, Int.cast_ofNat_Int, in_and2, ltB_t, ltB_f, leB_t, leB_f, eqB_t, eqB_f, ltNB_t, ltNB_f, leNB_t, leNB_f, eqNB_t, eqNB_f, noT, noF, Bool.and_eq_true, Bool.or_eq_true, Bool.and_eq_false_iff, Bool.or_eq_false_iff]
    · obtain ⟨i, hi, hl⟩ := i
      cbv
      simp only [implies_true, and_true, true_and, IX.v_lit, IX.v_nat, IX.v_sy, BX.v_lit, BX.v_sy, NX.v_lit, NX.v_sy, addN, in_true, eq_self, Nat.succ_eq_add_one, intD_eq, encInt_le, encText_le, encSpan_le, encPair_le, encBox_le, encNote_le, encSight_le, cell_i_le, Nat.add_zero, Int.toNat_natCast, Nat.lt_irrefl, if_false, and_self, ncast, imp_self, in_self, in_self2, in_and, Int.cast_ofNat_Int, in_and2, ltB_t, ltB_f, leB_t, leB_f, eqB_t, eqB_f, ltNB_t, ltNB_f, leNB_t, leNB_f, eqNB_t, eqNB_f, noT, noF, Bool.and_eq_true, Bool.or_eq_true, Bool.and_eq_false_iff, Bool.or_eq_false_iff]
      refine ⟨fun hlt => ?_, fun hlt => ?_⟩
      · cbv
        simp only [implies_true, and_true, true_and, IX.v_lit, IX.v_nat, IX.v_sy, BX.v_lit, BX.v_sy, NX.v_lit, NX.v_sy, addN, in_true, eq_self, Nat.succ_eq_add_one, intD_eq, encInt_le, encText_le, encSpan_le, encPair_le, encBox_le, encNote_le, encSight_le, cell_i_le, Nat.add_zero, Int.toNat_natCast, Nat.lt_irrefl, if_false, and_self, ncast, imp_self, in_self, in_self2, in_and, Int.cast_ofNat_Int, in_and2, noT, noF]
        refine ⟨⟨hlt⟩, ⟨hlt⟩, fun hb => ?_, fun hb => ?_⟩
        · have hb : badK cs i = true := by unfold badK; rw [hb]; rfl
          cbv
          simp only [implies_true, and_true, true_and, IX.v_lit, IX.v_nat, IX.v_sy, BX.v_lit, BX.v_sy, NX.v_lit, NX.v_sy, addN, in_true, eq_self, Nat.succ_eq_add_one, intD_eq, encInt_le, encText_le, encSpan_le, encPair_le, encBox_le, encNote_le, encSight_le, cell_i_le, Nat.add_zero, Int.toNat_natCast, Nat.lt_irrefl, if_false, and_self, ncast, imp_self, in_self, in_self2, in_and, Int.cast_ofNat_Int, in_and2, ltB_t, ltB_f, leB_t, leB_f, eqB_t, eqB_f, ltNB_t, ltNB_f, leNB_t, leNB_f, eqNB_t, eqNB_f, noT, noF, Bool.and_eq_true, Bool.or_eq_true, Bool.and_eq_false_iff, Bool.or_eq_false_iff]
          exact ⟨(firstBad_some hlt hb hl)⟩
        · have hb : badK cs i = false := by unfold badK; rw [hb]; rfl
          cbv
          simp only [implies_true, and_true, true_and, IX.v_lit, IX.v_nat, IX.v_sy, BX.v_lit, BX.v_sy, NX.v_lit, NX.v_sy, addN, in_true, eq_self, Nat.succ_eq_add_one, intD_eq, encInt_le, encText_le, encSpan_le, encPair_le, encBox_le, encNote_le, encSight_le, cell_i_le, Nat.add_zero, Int.toNat_natCast, Nat.lt_irrefl, if_false, and_self, ncast, imp_self, in_self, in_self2, in_and, Int.cast_ofNat_Int, in_and2, ltB_t, ltB_f, leB_t, leB_f, eqB_t, eqB_f, ltNB_t, ltNB_f, leNB_t, leNB_f, eqNB_t, eqNB_f, noT, noF, Bool.and_eq_true, Bool.or_eq_true, Bool.and_eq_false_iff, Bool.or_eq_false_iff]
          refine ⟨⟨nat_fits hlt hsz⟩, ⟨i + 1, by omega, fun j hj => ?_⟩, LeBy.le (pins := []) (fun i u h => by cases h) (l := [(0, .old 0)]) ?_, by show cs.length - (i + 1) < cs.length - i; omega⟩
          · rcases Nat.lt_or_ge j i with h1 | h1
            · exact hl j h1
            · rw [show j = i by omega]
              exact hb
          · cbv
            simp only [implies_true, and_true, true_and, IX.v_lit, IX.v_nat, IX.v_sy, BX.v_lit, BX.v_sy, NX.v_lit, NX.v_sy, addN, in_true, eq_self, Nat.succ_eq_add_one, intD_eq, encInt_le, encText_le, encSpan_le, encPair_le, encBox_le, encNote_le, encSight_le, cell_i_le, Nat.add_zero, Int.toNat_natCast, Nat.lt_irrefl, if_false, and_self, ncast, imp_self, in_self, in_self2, in_and, Int.cast_ofNat_Int, in_and2, ltB_t, ltB_f, leB_t, leB_f, eqB_t, eqB_f, ltNB_t, ltNB_f, leNB_t, leNB_f, eqNB_t, eqNB_f, noT, noF, Bool.and_eq_true, Bool.or_eq_true, Bool.and_eq_false_iff, Bool.or_eq_false_iff]
      · cbv
        simp only [implies_true, and_true, true_and, IX.v_lit, IX.v_nat, IX.v_sy, BX.v_lit, BX.v_sy, NX.v_lit, NX.v_sy, addN, in_true, eq_self, Nat.succ_eq_add_one, intD_eq, encInt_le, encText_le, encSpan_le, encPair_le, encBox_le, encNote_le, encSight_le, cell_i_le, Nat.add_zero, Int.toNat_natCast, Nat.lt_irrefl, if_false, and_self, ncast, imp_self, in_self, in_self2, in_and, Int.cast_ofNat_Int, in_and2, ltB_t, ltB_f, leB_t, leB_f, eqB_t, eqB_f, ltNB_t, ltNB_f, leNB_t, leNB_f, eqNB_t, eqNB_f, noT, noF, Bool.and_eq_true, Bool.or_eq_true, Bool.and_eq_false_iff, Bool.or_eq_false_iff]
        exact ⟨(firstBad_none fun j hj => hl j (by omega))⟩
  · exact hs.elim
def spContains : Spec := fun args M _ => match args with
  | [.one c, .one (.c (.func (.func f) ⟨[]⟩ ⟨[]⟩))] => ⟨isT (Nat.beq f 171) ∧ In fun _ => okInts M c ∧ (ints M c).length ≤ 140737488355328, cbool (.sy fun _ => leB 0 (firstBad (ints M c))), [], [], (seen M c).reads⟩
  | _ => bad
theorem congrContains : spContains.Congr := by
  intro args M M' base hs h
  unfold spContains at *
  split at hs
  · simp only [ints, okInts] at h ⊢
    rw [seen_congr (M := M) (M' := M') h]
  · exact hs.elim
theorem ints_at (cs : List Int) (M : Mem) (c : CV) {r : List Nat} (h : seen M c = ⟨True, .sy (fun _ => cs.length) 0, 1, fun e => encInt fun _ => cs.getD e intD, r⟩) : okInts M c ∧ ints M c = cs := by
  unfold okInts ints
  rw [h]
  exact ⟨int_ok _ _, int_row _ _ _ _⟩
theorem okContains : SpecOk F0 Tryz.prog 170 spContains := by
  refine spec_val (e := en [(197, spIndex)]) (en_ok ⟨okIndex, trivial⟩) rfl (fn := Tryz.f170) (c := fbody Tryz.f170) (by kernel_rfl) rfl rfl (by kernel_rfl) congrContains fun args M base hs => ?_
  unfold spContains at hs ⊢
  split at hs
  · rename_i c f
    obtain ⟨hf, hs⟩ := hs
    obtain rfl := Nat.eq_of_beq_eq_true (isT_iff.1 hf)
    refine ⟨[.one (.ref 0), .one (.c (.func (.func 171) ⟨[]⟩ ⟨[]⟩))], [intRow .ro (ints M c)], Nat.le_of_ble_eq_true rfl, trivial, .row (int_from hs.ok.1) (.val rfl .nil), rfl, rfl, rfl, fun B => ?_⟩
    have hsz : (ints M c).length ≤ 140737488355328 := hs.ok.2
    clear hs
    show vc _ _ _ _ fun x st => _ ∧ _ ∧ IvLe _ _ (cbool (.sy fun _ => leB 0 (firstBad (ints M c))))
    revert hsz
    generalize ints M c = cs
    intro hsz
    cbv
    simp only [implies_true, and_true, true_and, IX.v_lit, IX.v_nat, IX.v_sy, BX.v_lit, BX.v_sy, NX.v_lit, NX.v_sy, addN, in_true, eq_self, Nat.succ_eq_add_one, intD_eq, encInt_le, encText_le, encSpan_le, encPair_le, encBox_le, encNote_le, encSight_le, cell_i_le, Nat.add_zero, Int.toNat_natCast, Nat.lt_irrefl, if_false, and_self, ncast, imp_self, in_self, in_self2, in_and, Int.cast_ofNat_Int, in_and2, ltB_t, ltB_f, leB_t, leB_f, eqB_t, eqB_f, ltNB_t, ltNB_f, leNB_t, leNB_f, eqNB_t, eqNB_f, noT, noF, Bool.and_eq_true, Bool.or_eq_true, Bool.and_eq_false_iff, Bool.or_eq_false_iff]
    simp only [in_true, eq_self, and_true, true_and, ints, texts, spans, pairs, boxs, notes, sights, seen, lget, reduceIte, Nat.reduceEqDiff, reduceCtorEq, Nat.succ_ne_self, Nat.zero_ne_one, Nat.one_ne_zero, int_row0, int_row, text_row, span_row, pair_row, box_row, note_row, sight_row]
    exact ⟨(ints_at cs _ _ rfl).1, hsz⟩
  · exact hs.elim
theorem contains_kinds (cs : List Int) : (!leB 0 (firstBad cs)) = kindsTo cs cs.length := by
  cases h : kindsTo cs cs.length with
  | true =>
    have hl : ∀ j, j < cs.length → badK cs j = false := fun j hj => by
      have := List.all_eq_true.1 h j (List.mem_range.2 hj)
      unfold badK leB
      rw [this]
      rfl
    rw [firstBad_none hl]
    rfl
  | false =>
    have hb : ∃ j, j < cs.length ∧ badK cs j = true := by
      obtain ⟨j, hj, hb⟩ := List.all_eq_false.1 h
      refine ⟨j, List.mem_range.1 hj, ?_⟩
      unfold badK leB
      simp only [Bool.not_eq_true] at hb
      rw [hb]
      rfl
    cases hf : (List.range cs.length).find? (badK cs) with
    | none =>
      obtain ⟨j, hj, hb⟩ := hb
      have := List.find?_eq_none.1 hf j (List.mem_range.2 hj)
      exact (this hb).elim
    | some i =>
      unfold firstBad
      rw [hf]
      have : leB 0 ((i : Nat) : Int) = true := by rw [leB_t]; omega
      show (!leB 0 ((i : Nat) : Int)) = false
      rw [this]
      rfl
def spKinds : Spec := fun args M _ => match args with
  | [.agg [.i .i64 st, .i .i64 pl, .i .i64 sk, c, d], .one e] => ⟨In fun _ => okLife M c d ∧ okInts M e ∧ (ints M e).length ≤ 140737488355328, cbool (.sy fun _ => courseB (sights M c).length (ints M e)), [], [], (seen M c).reads ++ (seen M d).reads ++ (seen M e).reads⟩
  | _ => bad
theorem congrKinds : spKinds.Congr := by
  intro args M M' base hs h
  unfold spKinds at *
  split at hs
  · simp only [okLife, okSights, okNotes, okInts, sights, notes, ints] at h ⊢
    rw [seen_congr (M := M) (M' := M') (fun i hi => h i (List.mem_append_left _ (List.mem_append_left _ hi))), seen_congr (M := M) (M' := M') (fun i hi => h i (List.mem_append_left _ (List.mem_append_right _ hi))), seen_congr (M := M) (M' := M') (fun i hi => h i (List.mem_append_right _ hi))]
  · exact hs.elim
theorem okKinds : SpecOk F0 Tryz.prog 137 spKinds := by
  refine spec_val (e := en [(170, spContains)]) (en_ok ⟨okContains, trivial⟩) rfl (fn := Tryz.f137) (c := fbody Tryz.f137) (by kernel_rfl) rfl rfl (by kernel_rfl) congrKinds fun args M base hs => ?_
  unfold spKinds at hs ⊢
  split at hs
  · rename_i st pl sk c d e
    refine ⟨[.agg [.i .i64 (.sy fun _ => st.val), .i .i64 (.sy fun _ => pl.val), .i .i64 (.sy fun _ => sk.val), .ref 0, .ref 1], .one (.ref 2)], [sightRow .ro (sights M c), noteRow .ro (notes M d), intRow .ro (ints M e)], Nat.le_of_ble_eq_true rfl, ⟨rfl, trivial⟩, .val rfl (.val rfl (.val rfl (.row (sight_from hs.ok.1.1) (.row (note_from hs.ok.1.2.1) (.row (int_from hs.ok.2.1) .nil))))), rfl, rfl, rfl, fun B => ?_⟩
    have hsz : (sights M c).length ≤ 140737488355328 := hs.ok.1.2.2.1
    have hsz2 : (ints M e).length ≤ 140737488355328 := hs.ok.2.2
    clear hs
    show vc _ _ _ _ fun x st => _ ∧ _ ∧ IvLe _ _ (cbool (.sy fun _ => courseB (sights M c).length (ints M e)))
    revert hsz hsz2
    generalize sights M c = ss
    generalize notes M d = ns
    generalize ints M e = cs
    intro hsz hsz2
    cbv
    simp only [implies_true, and_true, true_and, IX.v_lit, IX.v_nat, IX.v_sy, BX.v_lit, BX.v_sy, NX.v_lit, NX.v_sy, addN, in_true, eq_self, Nat.succ_eq_add_one, intD_eq, encInt_le, encText_le, encSpan_le, encPair_le, encBox_le, encNote_le, encSight_le, cell_i_le, Nat.add_zero, Int.toNat_natCast, Nat.lt_irrefl, if_false, and_self, ncast, imp_self, in_self, in_self2, in_and, Int.cast_ofNat_Int, in_and2, noT, noF]
    simp only [in_true, eq_self, and_true, true_and, ints, texts, spans, pairs, boxs, notes, sights, seen, lget, reduceIte, Nat.reduceEqDiff, reduceCtorEq, Nat.succ_ne_self, Nat.zero_ne_one, Nat.one_ne_zero, int_row0, int_row, text_row, span_row, pair_row, box_row, note_row, sight_row]
    refine ⟨⟨by unfold fitsK; omega⟩, fun _ => ⟨(ints_at cs _ _ rfl).1, hsz2⟩, ⟨?_⟩⟩
    rw [contains_kinds]
    unfold courseB
    rw [show eqB ((cs.length : Nat) : Int) (((ss.length : Nat) : Int) - 1) = decide (cs.length + 1 = ss.length) from decide_eq_decide.2 (by omega)]
  · exact hs.elim
end Go.Proofs.YthgllnnlngihoaaGreat.Sx
end
section
set_option linter.unusedVariables false
set_option linter.unusedSimpArgs false
set_option maxRecDepth 100000
namespace Go.Proofs.YthgllnnlngihoaaGreat.Sx
open Go.RowKit

theorem sights_at (xs : List SightD) (M : Mem) (c : CV) {r : List Nat} (h : seen M c = ⟨True, .sy (fun _ => xs.length) 0, 9, fun e => encSight fun _ => xs.getD e sightD, r⟩) : okSights M c ∧ sights M c = xs := by
  unfold okSights sights
  rw [h]
  exact ⟨sight_ok _ _, sight_row _ _ _ _⟩
theorem notes_at (xs : List NoteD) (M : Mem) (c : CV) {r : List Nat} (h : seen M c = ⟨True, .sy (fun _ => xs.length) 0, 4, fun e => encNote fun _ => xs.getD e noteD, r⟩) : okNotes M c ∧ notes M c = xs := by
  unfold okNotes notes
  rw [h]
  exact ⟨note_ok _ _, note_row _ _ _ _⟩
theorem life_at {M : Mem} {c d : CV} {ss : List SightD} {ns : List NoteD} {r r' : List Nat} (h1 : seen M c = ⟨True, .sy (fun _ => ss.length) 0, 9, fun e => encSight fun _ => ss.getD e sightD, r⟩) (h2 : seen M d = ⟨True, .sy (fun _ => ns.length) 0, 4, fun e => encNote fun _ => ns.getD e noteD, r'⟩) (hs : ss.length ≤ 140737488355328) (hn : ns.length ≤ 140737488355328) : okLife M c d := by
  obtain ⟨a1, a2⟩ := sights_at ss M c h1
  obtain ⟨b1, b2⟩ := notes_at ns M d h2
  exact ⟨a1, b1, by rw [a2]; exact hs, by rw [b2]; exact hn⟩
theorem thru_side {M : Mem} {c d c' e : CV} {ss : List SightD} {ns : List NoteD} {cs : List Int} {st pl sk : Int} {r1 r2 r3 r4 : List Nat} (h1 : seen M c = ⟨True, .sy (fun _ => ss.length) 0, 9, fun e => encSight fun _ => ss.getD e sightD, r1⟩) (h2 : seen M d = ⟨True, .sy (fun _ => ns.length) 0, 4, fun e => encNote fun _ => ns.getD e noteD, r2⟩) (h3 : seen M c' = ⟨True, .sy (fun _ => ss.length) 0, 9, fun e => encSight fun _ => ss.getD e sightD, r3⟩) (h4 : seen M e = ⟨True, .sy (fun _ => cs.length) 0, 1, fun e => encInt fun _ => cs.getD e intD, r4⟩)
    (H : ThruIn ss ss cs st pl sk) : okSights M c ∧ okNotes M d ∧ okSights M c' ∧ okInts M e ∧ ThruIn (sights M c) (sights M c') (ints M e) st pl sk := by
  obtain ⟨a1, a2⟩ := sights_at ss M c h1
  obtain ⟨b1, b2⟩ := notes_at ns M d h2
  obtain ⟨c1, c2⟩ := sights_at ss M c' h3
  obtain ⟨d1, d2⟩ := ints_at cs M e h4
  rw [a2, c2, d2]
  exact ⟨a1, b1, c1, d1, H⟩
def notedTo (ss : List SightD) (ns : List NoteD) (cs : List Int) (i : Nat) : Bool := (List.range i).all fun j => notedB ss (ns.getD j noteD).kind (ns.getD j noteD).frm (ns.getD j noteD).til cs
section
variable (st pl sk : Int) (ss : List SightD) (ns : List NoteD) (cs : List Int)
def tellOk : Bool := notedTo ss ns cs ns.length && thruOk 0 st pl sk ss cs && thruOk 1 st pl sk ss cs && thruOk 2 st pl sk ss cs && letOk ss cs
def boxAt (k : Nat) : BoxD := ⟨(thruAt 0 st pl sk ss cs k).lo, (thruAt 0 st pl sk ss cs k).hi, (thruAt 1 st pl sk ss cs k).lo, (thruAt 1 st pl sk ss cs k).hi⟩
def tellB : List BoxD := bif tellOk st pl sk ss ns cs then (List.range ss.length).map (boxAt st pl sk ss cs) else []
def tellH : List SpanD := bif tellOk st pl sk ss ns cs then (List.range ss.length).map (thruAt 2 st pl sk ss cs) else []
def tellL : List ByteArray := bif tellOk st pl sk ss ns cs then letR ss cs else []
end
def boxRowT (xs : Unit → List BoxD) : Ob := .row .own 62 4 (.sy (fun _ => (xs ()).length) 0) fun e => encBox fun _ => (xs ()).getD e boxD
def spanRowT (xs : Unit → List SpanD) : Ob := .row .own 60 2 (.sy (fun _ => (xs ()).length) 0) fun e => encSpan fun _ => (xs ()).getD e spanD
theorem boxT_le (xs : Unit → List BoxD) (τ : Nat → Option Src) : ObLe τ (boxRowT xs) (boxRowT xs) := rowOf_le boxCod .own (xs ()) τ
theorem spanT_le (xs : Unit → List SpanD) (τ : Nat → Option Src) : ObLe τ (spanRowT xs) (spanRowT xs) := rowOf_le spanCod .own (xs ()) τ
def bRow (n : Unit → Nat) (f : Nat → BoxD) : Ob := .row .own 62 4 (.sy n 0) fun e => encBox fun _ => f e
def hRow (n : Unit → Nat) (f : Nat → SpanD) : Ob := .row .own 60 2 (.sy n 0) fun e => encSpan fun _ => f e
def tellR (base : Nat) (ok : Unit → Bool) : IV := .tup [.agg [.ref base, .ref (base + 1), .ref (base + 2)], .one (.b (.sy ok))]
def tellNews (st pl sk : Int) (ss : List SightD) (ns : List NoteD) (cs : List Int) : List Ob := [boxRowT fun _ => tellB st pl sk ss ns cs, spanRowT fun _ => tellH st pl sk ss ns cs, textRowT fun _ => tellL st pl sk ss ns cs]
def tellPost (st pl sk : Int) (ss : List SightD) (ns : List NoteD) (cs : List Int) (x : Exit) (s : St) : Prop := isRet x ∧ (resultI tab Tryz.f74.results.toList s.S.get (lget s.M)).1 ∧ ∃ js, FinBy tab Tryz.f74.results.toList js s (tellR 0 fun _ => tellOk st pl sk ss ns cs) (tellNews st pl sk ss ns cs)
def tellG : List (FuncId × Spec) := [(111, spNoted), (140, spThru), (146, spLetters)]
theorem tell_vc {st pl sk : Int} {ss : List SightD} {ns : List NoteD} {cs : List Int} (H : ThruIn ss ss cs st pl sk) (hns : ns.length ≤ 140737488355328) (B : Nat) :
    vc (en tellG) ⟨fun _ => none, B, fun _ => False, Tryz.f74.ntmps, none⟩ (fbody Tryz.f74) (start [.agg [.i .i64 (.sy fun _ => st), .i .i64 (.sy fun _ => pl), .i .i64 (.sy fun _ => sk), .ref 0, .ref 1], .one (.ref 2)] [sightRow .ro ss, noteRow .ro ns, intRow .ro cs]) (tellPost st pl sk ss ns cs) := by
  have hsz := H.few
  have hcs := H.len
  cbv
  simp only [implies_true, and_true, true_and, IX.v_lit, IX.v_nat, IX.v_sy, BX.v_lit, BX.v_sy, NX.v_lit, NX.v_sy, addN, in_true, eq_self, Nat.succ_eq_add_one, intD_eq, encInt_le, encText_le, encSpan_le, encPair_le, encBox_le, encNote_le, encSight_le, cell_i_le, Nat.add_zero, Int.toNat_natCast, Nat.lt_irrefl, if_false, and_self, ncast, imp_self, in_self, in_self2, in_and, Int.cast_ofNat_Int, in_and2, ltB_t, ltB_f, leB_t, leB_f, eqB_t, eqB_f, ltNB_t, ltNB_f, leNB_t, leNB_f, eqNB_t, eqNB_f, noT, noF, Bool.and_eq_true, Bool.or_eq_true, Bool.and_eq_false_iff, Bool.or_eq_false_iff]
  refine ⟨{i : Nat // i ≤ ns.length ∧ notedTo ss ns cs i = true}, fun i => ⟨[(2, .lit true, .one (.ref 3)), (3, .lit true, .one (.ref 4)), (4, .lit true, .one (.ref 5)), (16, .lit true, .one (.ref 1)), (17, .lit true, cint .i64 (.nat (fun _ => ns.length) 0)), (18, .lit true, cint .i64 (.nat (fun _ => i.1) 0))], [(0, sightRow .ro ss), (1, noteRow .ro ns), (2, intRow .ro cs), (3, .box true 27 [.i .i64 (.sy fun _ => st), .i .i64 (.sy fun _ => pl), .i .i64 (.sy fun _ => sk), .ref 0, .ref 1]), (4, .box true 28 [.ref 2]), (5, .box true 124 [.c (.slice none 0 0), .c (.slice none 0 0), .c (.slice none 0 0)])], 6⟩, fun i => ns.length - i.1, ⟨0, by omega, rfl⟩, LeBy.le (pins := []) (fun i u h => by cases h) (l := [(0, .old 0), (1, .old 1), (2, .old 2), (3, .old 3), (4, .old 4), (5, .old 5)]) ?_, fun i => ?_⟩
  · cbv
    simp only [implies_true, and_true, true_and, IX.v_lit, IX.v_nat, IX.v_sy, BX.v_lit, BX.v_sy, NX.v_lit, NX.v_sy, addN, in_true, eq_self, Nat.succ_eq_add_one, intD_eq, encInt_le, encText_le, encSpan_le, encPair_le, encBox_le, encNote_le, encSight_le, cell_i_le, Nat.add_zero, Int.toNat_natCast, Nat.lt_irrefl, if_false, and_self, ncast, imp_self, in_self, in_self2, in_and, Int.cast_ofNat_Int, in_and2, ltB_t, ltB_f, leB_t, leB_f, eqB_t, eqB_f, ltNB_t, ltNB_f, leNB_t, leNB_f, eqNB_t, eqNB_f, noT, noF, Bool.and_eq_true, Bool.or_eq_true, Bool.and_eq_false_iff, Bool.or_eq_false_iff]
  · obtain ⟨i, hi, hl⟩ := i
    cbv
    simp only [implies_true, and_true, true_and, IX.v_lit, IX.v_nat, IX.v_sy, BX.v_lit, BX.v_sy, NX.v_lit, NX.v_sy, addN, in_true, eq_self, Nat.succ_eq_add_one, intD_eq, encInt_le, encText_le, encSpan_le, encPair_le, encBox_le, encNote_le, encSight_le, cell_i_le, Nat.add_zero, Int.toNat_natCast, Nat.lt_irrefl, if_false, and_self, ncast, imp_self, in_self, in_self2, in_and, Int.cast_ofNat_Int, in_and2, ltB_t, ltB_f, leB_t, leB_f, eqB_t, eqB_f, ltNB_t, ltNB_f, leNB_t, leNB_f, eqNB_t, eqNB_f, noT, noF, Bool.and_eq_true, Bool.or_eq_true, Bool.and_eq_false_iff, Bool.or_eq_false_iff]
    refine ⟨fun hlt => ?_, fun hlt => ?_⟩
    · cbv
      simp only [implies_true, and_true, true_and, IX.v_lit, IX.v_nat, IX.v_sy, BX.v_lit, BX.v_sy, NX.v_lit, NX.v_sy, addN, in_true, eq_self, Nat.succ_eq_add_one, intD_eq, encInt_le, encText_le, encSpan_le, encPair_le, encBox_le, encNote_le, encSight_le, cell_i_le, Nat.add_zero, Int.toNat_natCast, Nat.lt_irrefl, if_false, and_self, ncast, imp_self, in_self, in_self2, in_and, Int.cast_ofNat_Int, in_and2, noT, noF]
      simp only [in_true, eq_self, and_true, true_and, ints, texts, spans, pairs, boxs, notes, sights, seen, lget, reduceIte, Nat.reduceEqDiff, reduceCtorEq, Nat.succ_ne_self, Nat.zero_ne_one, Nat.one_ne_zero, int_row0, int_row, text_row, span_row, pair_row, box_row, note_row, sight_row]
      refine ⟨⟨hlt⟩, ⟨hlt⟩, ⟨life_at rfl rfl (by omega) hns, (ints_at cs _ _ rfl).1, by omega⟩, fun hb => ?_, fun hb => ?_⟩
      · have hno : tellOk st pl sk ss ns cs = false := by
          have : notedTo ss ns cs ns.length = false := List.all_eq_false.2 ⟨i, List.mem_range.2 hlt, by rw [hb]; simp⟩
          unfold tellOk
          rw [this]
          simp only [Bool.false_and]
        cbv
        refine ⟨[.nil, .nil, .nil], ?_⟩
        cbv
        simp only [implies_true, and_true, true_and, IX.v_lit, IX.v_nat, IX.v_sy, BX.v_lit, BX.v_sy, NX.v_lit, NX.v_sy, addN, in_true, eq_self, Nat.succ_eq_add_one, intD_eq, encInt_le, encText_le, encSpan_le, encPair_le, encBox_le, encNote_le, encSight_le, cell_i_le, Nat.add_zero, Int.toNat_natCast, Nat.lt_irrefl, if_false, and_self, ncast, imp_self, in_self, in_self2, in_and, Int.cast_ofNat_Int, in_and2, ltB_t, ltB_f, leB_t, leB_f, eqB_t, eqB_f, ltNB_t, ltNB_f, leNB_t, leNB_f, eqNB_t, eqNB_f, noT, noF, Bool.and_eq_true, Bool.or_eq_true, Bool.and_eq_false_iff, Bool.or_eq_false_iff]
        exact ⟨⟨⟨by unfold tellB; rw [hno]; rfl⟩, ⟨by unfold tellH; rw [hno]; rfl⟩, ⟨by unfold tellL; rw [hno]; rfl⟩⟩, ⟨hno⟩⟩
      · cbv
        simp only [implies_true, and_true, true_and, IX.v_lit, IX.v_nat, IX.v_sy, BX.v_lit, BX.v_sy, NX.v_lit, NX.v_sy, addN, in_true, eq_self, Nat.succ_eq_add_one, intD_eq, encInt_le, encText_le, encSpan_le, encPair_le, encBox_le, encNote_le, encSight_le, cell_i_le, Nat.add_zero, Int.toNat_natCast, Nat.lt_irrefl, if_false, and_self, ncast, imp_self, in_self, in_self2, in_and, Int.cast_ofNat_Int, in_and2, ltB_t, ltB_f, leB_t, leB_f, eqB_t, eqB_f, ltNB_t, ltNB_f, leNB_t, leNB_f, eqNB_t, eqNB_f, noT, noF, Bool.and_eq_true, Bool.or_eq_true, Bool.and_eq_false_iff, Bool.or_eq_false_iff]
        refine ⟨⟨nat_fits hlt hns⟩, ⟨i + 1, by omega, ?_⟩, LeBy.le (pins := []) (fun i u h => by cases h) (l := [(0, .old 0), (1, .old 1), (2, .old 2), (3, .old 3), (4, .old 4), (5, .old 5)]) ?_, by show ns.length - (i + 1) < ns.length - i; omega⟩
        · unfold notedTo at hl ⊢
          rw [List.range_succ, List.all_append, hl]
          simp only [List.all_cons, List.all_nil, Bool.and_true, Bool.true_and]
          exact hb
        · cbv
          simp only [implies_true, and_true, true_and, IX.v_lit, IX.v_nat, IX.v_sy, BX.v_lit, BX.v_sy, NX.v_lit, NX.v_sy, addN, in_true, eq_self, Nat.succ_eq_add_one, intD_eq, encInt_le, encText_le, encSpan_le, encPair_le, encBox_le, encNote_le, encSight_le, cell_i_le, Nat.add_zero, Int.toNat_natCast, Nat.lt_irrefl, if_false, and_self, ncast, imp_self, in_self, in_self2, in_and, Int.cast_ofNat_Int, in_and2, ltB_t, ltB_f, leB_t, leB_f, eqB_t, eqB_f, ltNB_t, ltNB_f, leNB_t, leNB_f, eqNB_t, eqNB_f, noT, noF, Bool.and_eq_true, Bool.or_eq_true, Bool.and_eq_false_iff, Bool.or_eq_false_iff]
    · have hN : notedTo ss ns cs ns.length = true := by rw [show ns.length = i by omega]; exact hl
      cbv
      simp only [implies_true, and_true, true_and, IX.v_lit, IX.v_nat, IX.v_sy, BX.v_lit, BX.v_sy, NX.v_lit, NX.v_sy, addN, in_true, eq_self, Nat.succ_eq_add_one, intD_eq, encInt_le, encText_le, encSpan_le, encPair_le, encBox_le, encNote_le, encSight_le, cell_i_le, Nat.add_zero, Int.toNat_natCast, Nat.lt_irrefl, if_false, and_self, ncast, imp_self, in_self, in_self2, in_and, Int.cast_ofNat_Int, in_and2, noT, noF]
      simp only [in_true, eq_self, and_true, true_and, ints, texts, spans, pairs, boxs, notes, sights, seen, lget, reduceIte, Nat.reduceEqDiff, reduceCtorEq, Nat.succ_ne_self, Nat.zero_ne_one, Nat.one_ne_zero, int_row0, int_row, text_row, span_row, pair_row, box_row, note_row, sight_row]
      refine ⟨⟨(sights_at ss _ _ rfl).1, (notes_at ns _ _ rfl).1, (sights_at ss _ _ rfl).1, (ints_at cs _ _ rfl).1, H⟩, fun h0 => ?_, fun h0 => ?_⟩
      · have hno : tellOk st pl sk ss ns cs = false := by
          unfold tellOk
          rw [h0]
          simp only [Bool.and_false, Bool.false_and]
        cbv
        refine ⟨[.nil, .nil, .nil], ?_⟩
        cbv
        simp only [implies_true, and_true, true_and, IX.v_lit, IX.v_nat, IX.v_sy, BX.v_lit, BX.v_sy, NX.v_lit, NX.v_sy, addN, in_true, eq_self, Nat.succ_eq_add_one, intD_eq, encInt_le, encText_le, encSpan_le, encPair_le, encBox_le, encNote_le, encSight_le, cell_i_le, Nat.add_zero, Int.toNat_natCast, Nat.lt_irrefl, if_false, and_self, ncast, imp_self, in_self, in_self2, in_and, Int.cast_ofNat_Int, in_and2, ltB_t, ltB_f, leB_t, leB_f, eqB_t, eqB_f, ltNB_t, ltNB_f, leNB_t, leNB_f, eqNB_t, eqNB_f, noT, noF, Bool.and_eq_true, Bool.or_eq_true, Bool.and_eq_false_iff, Bool.or_eq_false_iff]
        exact ⟨⟨⟨by unfold tellB; rw [hno]; rfl⟩, ⟨by unfold tellH; rw [hno]; rfl⟩, ⟨by unfold tellL; rw [hno]; rfl⟩⟩, ⟨hno⟩⟩
      · cbv
        simp only [implies_true, and_true, true_and, IX.v_lit, IX.v_nat, IX.v_sy, BX.v_lit, BX.v_sy, NX.v_lit, NX.v_sy, addN, in_true, eq_self, Nat.succ_eq_add_one, intD_eq, encInt_le, encText_le, encSpan_le, encPair_le, encBox_le, encNote_le, encSight_le, cell_i_le, Nat.add_zero, Int.toNat_natCast, Nat.lt_irrefl, if_false, and_self, ncast, imp_self, in_self, in_self2, in_and, Int.cast_ofNat_Int, in_and2, noT, noF]
        simp only [in_true, eq_self, and_true, true_and, ints, texts, spans, pairs, boxs, notes, sights, seen, lget, reduceIte, Nat.reduceEqDiff, reduceCtorEq, Nat.succ_ne_self, Nat.zero_ne_one, Nat.one_ne_zero, int_row0, int_row, text_row, span_row, pair_row, box_row, note_row, sight_row]
        refine ⟨⟨(sights_at ss _ _ rfl).1, (notes_at ns _ _ rfl).1, (sights_at ss _ _ rfl).1, (ints_at cs _ _ rfl).1, H⟩, fun h1 => ?_, fun h1 => ?_⟩
        · have hno : tellOk st pl sk ss ns cs = false := by
            unfold tellOk
            rw [h1]
            simp only [Bool.and_false, Bool.false_and]
          cbv
          refine ⟨[.nil, .nil, .nil], ?_⟩
          cbv
          simp only [implies_true, and_true, true_and, IX.v_lit, IX.v_nat, IX.v_sy, BX.v_lit, BX.v_sy, NX.v_lit, NX.v_sy, addN, in_true, eq_self, Nat.succ_eq_add_one, intD_eq, encInt_le, encText_le, encSpan_le, encPair_le, encBox_le, encNote_le, encSight_le, cell_i_le, Nat.add_zero, Int.toNat_natCast, Nat.lt_irrefl, if_false, and_self, ncast, imp_self, in_self, in_self2, in_and, Int.cast_ofNat_Int, in_and2, ltB_t, ltB_f, leB_t, leB_f, eqB_t, eqB_f, ltNB_t, ltNB_f, leNB_t, leNB_f, eqNB_t, eqNB_f, noT, noF, Bool.and_eq_true, Bool.or_eq_true, Bool.and_eq_false_iff, Bool.or_eq_false_iff]
          exact ⟨⟨⟨by unfold tellB; rw [hno]; rfl⟩, ⟨by unfold tellH; rw [hno]; rfl⟩, ⟨by unfold tellL; rw [hno]; rfl⟩⟩, ⟨hno⟩⟩
        · cbv
          simp only [implies_true, and_true, true_and, IX.v_lit, IX.v_nat, IX.v_sy, BX.v_lit, BX.v_sy, NX.v_lit, NX.v_sy, addN, in_true, eq_self, Nat.succ_eq_add_one, intD_eq, encInt_le, encText_le, encSpan_le, encPair_le, encBox_le, encNote_le, encSight_le, cell_i_le, Nat.add_zero, Int.toNat_natCast, Nat.lt_irrefl, if_false, and_self, ncast, imp_self, in_self, in_self2, in_and, Int.cast_ofNat_Int, in_and2, noT, noF]
          simp only [in_true, eq_self, and_true, true_and, ints, texts, spans, pairs, boxs, notes, sights, seen, lget, reduceIte, Nat.reduceEqDiff, reduceCtorEq, Nat.succ_ne_self, Nat.zero_ne_one, Nat.one_ne_zero, int_row0, int_row, text_row, span_row, pair_row, box_row, note_row, sight_row]
          refine ⟨⟨(sights_at ss _ _ rfl).1, (notes_at ns _ _ rfl).1, (sights_at ss _ _ rfl).1, (ints_at cs _ _ rfl).1, H⟩, fun h2 => ?_, fun h2 => ?_⟩
          · have hno : tellOk st pl sk ss ns cs = false := by
              unfold tellOk
              rw [h2]
              simp only [Bool.and_false, Bool.false_and]
            cbv
            refine ⟨[.nil, .nil, .nil], ?_⟩
            cbv
            simp only [implies_true, and_true, true_and, IX.v_lit, IX.v_nat, IX.v_sy, BX.v_lit, BX.v_sy, NX.v_lit, NX.v_sy, addN, in_true, eq_self, Nat.succ_eq_add_one, intD_eq, encInt_le, encText_le, encSpan_le, encPair_le, encBox_le, encNote_le, encSight_le, cell_i_le, Nat.add_zero, Int.toNat_natCast, Nat.lt_irrefl, if_false, and_self, ncast, imp_self, in_self, in_self2, in_and, Int.cast_ofNat_Int, in_and2, ltB_t, ltB_f, leB_t, leB_f, eqB_t, eqB_f, ltNB_t, ltNB_f, leNB_t, leNB_f, eqNB_t, eqNB_f, noT, noF, Bool.and_eq_true, Bool.or_eq_true, Bool.and_eq_false_iff, Bool.or_eq_false_iff]
            exact ⟨⟨⟨by unfold tellB; rw [hno]; rfl⟩, ⟨by unfold tellH; rw [hno]; rfl⟩, ⟨by unfold tellL; rw [hno]; rfl⟩⟩, ⟨hno⟩⟩
          · cbv
            simp only [implies_true, and_true, true_and, IX.v_lit, IX.v_nat, IX.v_sy, BX.v_lit, BX.v_sy, NX.v_lit, NX.v_sy, addN, in_true, eq_self, Nat.succ_eq_add_one, intD_eq, encInt_le, encText_le, encSpan_le, encPair_le, encBox_le, encNote_le, encSight_le, cell_i_le, Nat.add_zero, Int.toNat_natCast, Nat.lt_irrefl, if_false, and_self, ncast, imp_self, in_self, in_self2, in_and, Int.cast_ofNat_Int, in_and2, noT, noF]
            simp only [in_true, eq_self, and_true, true_and, ints, texts, spans, pairs, boxs, notes, sights, seen, lget, reduceIte, Nat.reduceEqDiff, reduceCtorEq, Nat.succ_ne_self, Nat.zero_ne_one, Nat.one_ne_zero, int_row0, int_row, text_row, span_row, pair_row, box_row, note_row, sight_row]
            refine ⟨⟨(sights_at ss _ _ rfl).1, (notes_at ns _ _ rfl).1, (ints_at cs _ _ rfl).1, ⟨H.pos, H.few, H.len⟩⟩, fun h3 => ?_, fun h3 => ?_⟩
            · have hno : tellOk st pl sk ss ns cs = false := by
                unfold tellOk
                rw [h3]
                simp only [Bool.and_false]
              cbv
              refine ⟨[.nil, .nil, .nil], ?_⟩
              cbv
              simp only [implies_true, and_true, true_and, IX.v_lit, IX.v_nat, IX.v_sy, BX.v_lit, BX.v_sy, NX.v_lit, NX.v_sy, addN, in_true, eq_self, Nat.succ_eq_add_one, intD_eq, encInt_le, encText_le, encSpan_le, encPair_le, encBox_le, encNote_le, encSight_le, cell_i_le, Nat.add_zero, Int.toNat_natCast, Nat.lt_irrefl, if_false, and_self, ncast, imp_self, in_self, in_self2, in_and, Int.cast_ofNat_Int, in_and2, ltB_t, ltB_f, leB_t, leB_f, eqB_t, eqB_f, ltNB_t, ltNB_f, leNB_t, leNB_f, eqNB_t, eqNB_f, noT, noF, Bool.and_eq_true, Bool.or_eq_true, Bool.and_eq_false_iff, Bool.or_eq_false_iff]
              exact ⟨⟨⟨by unfold tellB; rw [hno]; rfl⟩, ⟨by unfold tellH; rw [hno]; rfl⟩, ⟨by unfold tellL; rw [hno]; rfl⟩⟩, ⟨hno⟩⟩
            · have hT : tellOk st pl sk ss ns cs = true := by
                unfold tellOk
                rw [hN, h0, h1, h2, h3]
                rfl
              have r0 : thruR 0 st pl sk ss cs = thruL 0 st pl sk ss cs := by unfold thruR; rw [h0]; rfl
              have r1 : thruR 1 st pl sk ss cs = thruL 1 st pl sk ss cs := by unfold thruR; rw [h1]; rfl
              have r2 : thruR 2 st pl sk ss cs = thruL 2 st pl sk ss cs := by unfold thruR; rw [h2]; rfl
              have e0 : (thruR 0 st pl sk ss cs).length = ss.length := by rw [r0]; exact ln_range _ _
              have e1 : (thruR 1 st pl sk ss cs).length = ss.length := by rw [r1]; exact ln_range _ _
              have e2 : (thruR 2 st pl sk ss cs).length = ss.length := by rw [r2]; exact ln_range _ _
              have g0 : ∀ k, k < ss.length → (thruR 0 st pl sk ss cs).getD k s191D = thruAt 0 st pl sk ss cs k := fun k hk => by rw [r0]; exact getD_range _ _ hk
              have g1 : ∀ k, k < ss.length → (thruR 1 st pl sk ss cs).getD k s191D = thruAt 1 st pl sk ss cs k := fun k hk => by rw [r1]; exact getD_range _ _ hk
              have g2 : ∀ k, k < ss.length → (thruR 2 st pl sk ss cs).getD k s191D = thruAt 2 st pl sk ss cs k := fun k hk => by rw [r2]; exact getD_range _ _ hk
              cbv
              simp only [implies_true, and_true, true_and, IX.v_lit, IX.v_nat, IX.v_sy, BX.v_lit, BX.v_sy, NX.v_lit, NX.v_sy, addN, in_true, eq_self, Nat.succ_eq_add_one, intD_eq, encInt_le, encText_le, encSpan_le, encPair_le, encBox_le, encNote_le, encSight_le, cell_i_le, Nat.add_zero, Int.toNat_natCast, Nat.lt_irrefl, if_false, and_self, ncast, imp_self, in_self, in_self2, in_and, Int.cast_ofNat_Int, in_and2, ltB_t, ltB_f, leB_t, leB_f, eqB_t, eqB_f, ltNB_t, ltNB_f, leNB_t, leNB_f, eqNB_t, eqNB_f, noT, noF, Bool.and_eq_true, Bool.or_eq_true, Bool.and_eq_false_iff, Bool.or_eq_false_iff]
              refine ⟨{i : Nat // i ≤ ss.length}, fun i => ⟨[(4, .lit true, .one (.ref 5)), (9, .lit true, .one (.ref 7)), (11, .lit true, .one (.ref 8)), (12, .lit true, .one (.ref 10)), (13, .lit true, .one (.ref 11)), (75, .lit true, cint .i64 (.nat (fun _ => ss.length) 0)), (76, .lit true, cint .i64 (.nat (fun _ => i.1) 0))], [(5, .box true 124 [.c (.slice none 0 0), .c (.slice none 0 0), .c (.slice none 0 0)]), (7, s191Row .own fun _ => thruR 0 st pl sk ss cs), (8, s191Row .own fun _ => thruR 1 st pl sk ss cs), (10, s191Row .own fun _ => thruR 2 st pl sk ss cs), (11, .box true 124 [.ref 13, .ref 14, .ref 12]), (12, textRowT fun _ => letR ss cs), (13, bRow (fun _ => i.1) (boxAt st pl sk ss cs)), (14, hRow (fun _ => i.1) (thruAt 2 st pl sk ss cs))], 15⟩, fun i => ss.length - i.1, ⟨0, by omega⟩, LeBy.le (pins := []) (fun i u h => by cases h) (l := [(5, .old 5), (7, .old 7), (8, .old 8), (10, .old 10), (11, .old 11), (12, .old 12), (13, .nil), (14, .nil)]) ?_, fun i => ?_⟩
              · cbv
                simp only [implies_true, and_true, true_and, IX.v_lit, IX.v_nat, IX.v_sy, BX.v_lit, BX.v_sy, NX.v_lit, NX.v_sy, addN, in_true, eq_self, Nat.succ_eq_add_one, intD_eq, encInt_le, encText_le, encSpan_le, encPair_le, encBox_le, encNote_le, encSight_le, cell_i_le, Nat.add_zero, Int.toNat_natCast, Nat.lt_irrefl, if_false, and_self, ncast, imp_self, in_self, in_self2, in_and, Int.cast_ofNat_Int, in_and2, ltB_t, ltB_f, leB_t, leB_f, eqB_t, eqB_f, ltNB_t, ltNB_f, leNB_t, leNB_f, eqNB_t, eqNB_f, noT, noF, Bool.and_eq_true, Bool.or_eq_true, Bool.and_eq_false_iff, Bool.or_eq_false_iff]
                exact ⟨⟨fun e he => closedL_le rfl⟩, ⟨fun e he => closedL_le rfl⟩, ⟨fun e he => closedL_le rfl⟩⟩
              · obtain ⟨k, hk⟩ := i
                cbv
                simp only [implies_true, and_true, true_and, IX.v_lit, IX.v_nat, IX.v_sy, BX.v_lit, BX.v_sy, NX.v_lit, NX.v_sy, addN, in_true, eq_self, Nat.succ_eq_add_one, intD_eq, encInt_le, encText_le, encSpan_le, encPair_le, encBox_le, encNote_le, encSight_le, cell_i_le, Nat.add_zero, Int.toNat_natCast, Nat.lt_irrefl, if_false, and_self, ncast, imp_self, in_self, in_self2, in_and, Int.cast_ofNat_Int, in_and2, ltB_t, ltB_f, leB_t, leB_f, eqB_t, eqB_f, ltNB_t, ltNB_f, leNB_t, leNB_f, eqNB_t, eqNB_f, noT, noF, Bool.and_eq_true, Bool.or_eq_true, Bool.and_eq_false_iff, Bool.or_eq_false_iff]
                refine ⟨fun hlt => ?_, fun hlt => ?_⟩
                · cbv
                  simp only [implies_true, and_true, true_and, IX.v_lit, IX.v_nat, IX.v_sy, BX.v_lit, BX.v_sy, NX.v_lit, NX.v_sy, addN, in_true, eq_self, Nat.succ_eq_add_one, intD_eq, encInt_le, encText_le, encSpan_le, encPair_le, encBox_le, encNote_le, encSight_le, cell_i_le, Nat.add_zero, Int.toNat_natCast, Nat.lt_irrefl, if_false, and_self, ncast, imp_self, in_self, in_self2, in_and, Int.cast_ofNat_Int, in_and2, ltB_t, ltB_f, leB_t, leB_f, eqB_t, eqB_f, ltNB_t, ltNB_f, leNB_t, leNB_f, eqNB_t, eqNB_f, noT, noF, Bool.and_eq_true, Bool.or_eq_true, Bool.and_eq_false_iff, Bool.or_eq_false_iff]
                  refine ⟨⟨by omega⟩, ⟨by omega⟩, ⟨by omega⟩, ⟨by omega⟩, ⟨by omega, by omega⟩, ⟨by kernel_rfl⟩, ⟨by omega⟩, ⟨by omega⟩, ⟨by omega, by omega⟩, ⟨by kernel_rfl⟩, ⟨nat_fits hlt (by omega)⟩, ⟨k + 1, by omega⟩, LeBy.le (pins := []) (fun i u h => by cases h) (l := [(5, .old 5), (7, .old 7), (8, .old 8), (10, .old 10), (11, .old 11), (12, .old 12), (13, .old 16), (14, .old 18)]) ?_, by show ss.length - (k + 1) < ss.length - k; omega⟩
                  cbv
                  simp only [implies_true, and_true, true_and, IX.v_lit, IX.v_nat, IX.v_sy, BX.v_lit, BX.v_sy, NX.v_lit, NX.v_sy, addN, in_true, eq_self, Nat.succ_eq_add_one, intD_eq, encInt_le, encText_le, encSpan_le, encPair_le, encBox_le, encNote_le, encSight_le, cell_i_le, Nat.add_zero, Int.toNat_natCast, Nat.lt_irrefl, if_false, and_self, ncast, imp_self, in_self, in_self2, in_and, Int.cast_ofNat_Int, in_and2, ltB_t, ltB_f, leB_t, leB_f, eqB_t, eqB_f, ltNB_t, ltNB_f, leNB_t, leNB_f, eqNB_t, eqNB_f, noT, noF, Bool.and_eq_true, Bool.or_eq_true, Bool.and_eq_false_iff, Bool.or_eq_false_iff]
                  refine ⟨⟨fun e he => closedL_le rfl⟩, ⟨fun e he => closedL_le rfl⟩, ⟨fun e he => closedL_le rfl⟩, ⟨fun e he => ?_⟩, ⟨fun e he => ?_⟩⟩
                  · by_cases h4 : e < k
                    · simp only [h4, if_true, encBox_le]
                    · simp only [h4, if_false]
                      obtain rfl : e = k := by omega
                      rw [Nat.sub_self, g0 e hlt, g1 e hlt]
                      exact closedL_le rfl
                  · by_cases h4 : e < k
                    · simp only [h4, if_true, encSpan_le]
                    · simp only [h4, if_false]
                      obtain rfl : e = k := by omega
                      rw [Nat.sub_self, g2 e hlt]
                      exact closedL_le rfl
                · obtain rfl : k = ss.length := by omega
                  cbv
                  refine ⟨[.old 13, .old 14, .old 12], ?_⟩
                  cbv
                  simp only [implies_true, and_true, true_and, IX.v_lit, IX.v_nat, IX.v_sy, BX.v_lit, BX.v_sy, NX.v_lit, NX.v_sy, addN, in_true, eq_self, Nat.succ_eq_add_one, intD_eq, encInt_le, encText_le, encSpan_le, encPair_le, encBox_le, encNote_le, encSight_le, cell_i_le, Nat.add_zero, Int.toNat_natCast, Nat.lt_irrefl, if_false, and_self, ncast, imp_self, in_self, in_self2, in_and, Int.cast_ofNat_Int, in_and2, ltB_t, ltB_f, leB_t, leB_f, eqB_t, eqB_f, ltNB_t, ltNB_f, leNB_t, leNB_f, eqNB_t, eqNB_f, noT, noF, Bool.and_eq_true, Bool.or_eq_true, Bool.and_eq_false_iff, Bool.or_eq_false_iff]
                  have hB : tellB st pl sk ss ns cs = (List.range ss.length).map (boxAt st pl sk ss cs) := by unfold tellB; rw [hT]; rfl
                  have hH : tellH st pl sk ss ns cs = (List.range ss.length).map (thruAt 2 st pl sk ss cs) := by unfold tellH; rw [hT]; rfl
                  have hL : tellL st pl sk ss ns cs = letR ss cs := by unfold tellL; rw [hT]; rfl
                  refine ⟨⟨⟨⟨by rw [hB]; exact ln_range _ _⟩, ⟨fun e he => ?_⟩⟩, ⟨⟨by rw [hH]; exact ln_range _ _⟩, ⟨fun e he => ?_⟩⟩, ⟨by rw [hL]⟩, ⟨fun e he => ?_⟩⟩, ⟨hT⟩⟩
                  · rw [show (fun x : PUnit => (tellB st pl sk ss ns cs).getD e boxD) = fun _ => boxAt st pl sk ss cs e from funext fun _ => by rw [hB]; exact getD_range _ _ he]
                    exact closedL_le rfl
                  · rw [show (fun x : PUnit => (tellH st pl sk ss ns cs).getD e spanD) = fun _ => thruAt 2 st pl sk ss cs e from funext fun _ => by rw [hH]; exact getD_range _ _ he]
                    exact closedL_le rfl
                  · rw [hL]
                    exact closedL_le rfl
def spTell : Spec := fun args M base => match args with
  | [.agg [.i .i64 st, .i .i64 pl, .i .i64 sk, c, d], .one e] =>
    ⟨In fun _ => okSights M c ∧ okNotes M d ∧ okInts M e ∧ (notes M d).length ≤ 140737488355328 ∧ ThruIn (sights M c) (sights M c) (ints M e) st.val pl.val sk.val, tellR base fun _ => tellOk st.val pl.val sk.val (sights M c) (notes M d) (ints M e), [boxRowT fun _ => tellB st.val pl.val sk.val (sights M c) (notes M d) (ints M e), spanRowT fun _ => tellH st.val pl.val sk.val (sights M c) (notes M d) (ints M e), textRowT fun _ => tellL st.val pl.val sk.val (sights M c) (notes M d) (ints M e)], [], (seen M c).reads ++ (seen M d).reads ++ (seen M e).reads⟩
  | _ => bad
theorem congrTell : spTell.Congr := by
  intro args M M' base hs h
  unfold spTell at *
  split at hs
  · simp only [okSights, okNotes, okInts, sights, notes, ints] at h ⊢
    rw [seen_congr (M := M) (M' := M') (fun i hi => h i (List.mem_append_left _ (List.mem_append_left _ hi))), seen_congr (M := M) (M' := M') (fun i hi => h i (List.mem_append_left _ (List.mem_append_right _ hi))), seen_congr (M := M) (M' := M') (fun i hi => h i (List.mem_append_right _ hi))]
  · exact hs.elim
theorem tellNews_le (st pl sk : Int) (ss : List SightD) (ns : List NoteD) (cs : List Int) (τ : Nat → Option Src) : All2 (ObLe τ) (tellNews st pl sk ss ns cs) (tellNews st pl sk ss ns cs) := ⟨boxT_le _ _, spanT_le _ _, textT_le _ _, trivial⟩
theorem tellNews_own (st pl sk : Int) (ss : List SightD) (ns : List NoteD) (cs : List Int) : ∀ ob ∈ tellNews st pl sk ss ns cs, ob.own = true ∨ ¬ ob.occ := by
  intro ob h
  rcases List.mem_cons.1 h with e | h
  · subst e; exact .inl rfl
  · rcases List.mem_cons.1 h with e | h
    · subst e; exact .inl rfl
    · rcases List.mem_cons.1 h with e | h
      · subst e; exact .inl rfl
      · cases h
theorem tellR_le (base : Nat) (ok : Unit → Bool) : IvLe (tauN base 3) (tellR 0 ok) (tellR base ok) := ⟨⟨tauN_at (t := 0) (by omega), tauN_at (t := 1) (by omega), tauN_at (t := 2) (by omega), trivial⟩, ⟨rfl⟩, trivial⟩
theorem okTell : SpecOk F0 Tryz.prog 74 spTell := by
  refine spec_gen (e := en tellG) (en_ok ⟨okNoted, okThru, okLetters, trivial⟩) rfl (fn := Tryz.f74) (c := fbody Tryz.f74) (by kernel_rfl) rfl rfl (by kernel_rfl) congrTell fun args M base hs => ?_
  unfold spTell at hs ⊢
  split at hs
  · rename_i st pl sk c d e
    obtain ⟨k1, k2, k3, k4, k5⟩ := hs.ok
    exact ⟨[.agg [.i .i64 (.sy fun _ => st.val), .i .i64 (.sy fun _ => pl.val), .i .i64 (.sy fun _ => sk.val), .ref 0, .ref 1], .one (.ref 2)], [sightRow .ro (sights M c), noteRow .ro (notes M d), intRow .ro (ints M e)], fun base => tellR base _, fun _ => tellNews _ _ _ _ _ _, Nat.le_of_ble_eq_true rfl, ⟨rfl, trivial⟩, .val rfl (.val rfl (.val rfl (.row (sight_from k1) (.row (note_from k2) (.row (int_from k3) .nil))))), rfl, rfl, rfl, tellR_le _ _, tellNews_le _ _ _ _ _ _ _, tellNews_own _ _ _ _ _ _, tell_vc k5 k4⟩
  · exact hs.elim
end Go.Proofs.YthgllnnlngihoaaGreat.Sx
end
section
namespace Go.Proofs
open Go.Shelf
def Tryz.lays128_ren : Go.Shelf.Ren := ⟨fun | 128 => 189 | n => n, fun | 51 => 229 | 3 => 3 | 4 => 4 | 46 => 199 | 5 => 5 | 9 => 9 | n => n, fun | n => n⟩
theorem Tryz.lays128 : Go.Proofs.Lays.n128 Tryz.prog Tryz.lays128_ren := {
  mixed := by kernel_rfl
  f128 := Tryz.func189.trans (congrArg some (by kernel_rfl))
  t3 := Tryz.underlying3
  a3 := Tryz.isAgg3
  z3 := Tryz.sizeOf3
  v3 := Tryz.zeroValue3
  t4 := Tryz.underlying4
  a4 := Tryz.isAgg4
  z4 := Tryz.sizeOf4
  v4 := Tryz.zeroValue4
  t5 := Tryz.underlying5
  a5 := Tryz.isAgg5
  z5 := Tryz.sizeOf5
  v5 := Tryz.zeroValue5
  t9 := Tryz.underlying9
  a9 := Tryz.isAgg9
  z9 := Tryz.sizeOf9
  v9 := Tryz.zeroValue9
  t46 := Tryz.underlying199
  a46 := Tryz.isAgg199
  z46 := Tryz.sizeOf199
  v46 := Tryz.zeroValue199
  t51 := Tryz.underlying229
  a51 := Tryz.isAgg229
  z51 := Tryz.sizeOf229
  v51 := Tryz.zeroValue229 }
/-- bits.Len32: "Len32 returns the minimum number of bits required to represent x; the result is 0 for x == 0.": IT RETURNS 'Lib.bitLen x'; the world is as it was. ('h0', 'h1': x is a uint32.) (LAID: no walk: one application.) -/
theorem Tryz.bits_Len32 (x : Int) (w : World) (h0 : 0 ≤ x) (h1 : x ≤ 4294967295) :
    Calls Tryz.prog 189 #[.int .u32 x] w fun e w' => e = .returned (.int .i64 (Lib.bitLen x.toNat)) ∧ w' = w := Any.bits_Len32 Tryz.lays128 x w h0 h1
def Tryz.lays125_ren : Go.Shelf.Ren := ⟨fun | 125 => 152 | 128 => 189 | 129 => 190 | n => n, fun | 46 => 199 | 3 => 3 | 51 => 229 | 53 => 231 | 4 => 4 | 5 => 5 | 9 => 9 | n => n, fun | n => n⟩
theorem Tryz.lays125 : Go.Proofs.Lays.n125 Tryz.prog Tryz.lays125_ren := {
  mixed := by kernel_rfl
  f125 := Tryz.func152.trans (congrArg some (by kernel_rfl))
  f128 := Tryz.func189.trans (congrArg some (by kernel_rfl))
  f129 := Tryz.func190.trans (congrArg some (by kernel_rfl))
  t3 := Tryz.underlying3
  a3 := Tryz.isAgg3
  z3 := Tryz.sizeOf3
  v3 := Tryz.zeroValue3
  t4 := Tryz.underlying4
  a4 := Tryz.isAgg4
  z4 := Tryz.sizeOf4
  v4 := Tryz.zeroValue4
  t5 := Tryz.underlying5
  a5 := Tryz.isAgg5
  z5 := Tryz.sizeOf5
  v5 := Tryz.zeroValue5
  t9 := Tryz.underlying9
  a9 := Tryz.isAgg9
  z9 := Tryz.sizeOf9
  v9 := Tryz.zeroValue9
  t46 := Tryz.underlying199
  a46 := Tryz.isAgg199
  z46 := Tryz.sizeOf199
  v46 := Tryz.zeroValue199
  t51 := Tryz.underlying229
  a51 := Tryz.isAgg229
  z51 := Tryz.sizeOf229
  v51 := Tryz.zeroValue229
  t53 := Tryz.underlying231
  a53 := Tryz.isAgg231
  z53 := Tryz.sizeOf231
  v53 := Tryz.zeroValue231 }
/-- bits.Len: "Len returns the minimum number of bits required to represent x; the result is 0 for x == 0.": IT RETURNS 'Lib.bitLen x'; the world is as it was. (A uint has 64 bits in the model.) ITS CALLEE bits.Len64 IS MET BY ITS OWN CONTRACT OFF THE SHELF (lay that first). (LAID: no walk: one application.) -/
theorem Tryz.bits_Len (x : Int) (w : World) (h0 : 0 ≤ x) (h1 : x ≤ 18446744073709551615) :
    Calls Tryz.prog 152 #[.int .u64 x] w fun e w' => e = .returned (.int .i64 (Lib.bitLen x.toNat)) ∧ w' = w := Any.bits_Len Tryz.lays125 x w h0 h1
def Tryz.lays215_ren : Go.Shelf.Ren := ⟨fun | 215 => 204 | n => n, fun | 3 => 3 | 4 => 4 | n => n, fun | n => n⟩
theorem Tryz.lays215 : Go.Proofs.Lays.n215 Tryz.prog Tryz.lays215_ren := {
  mixed := by kernel_rfl
  f215 := Tryz.func204.trans (congrArg some (by kernel_rfl))
  t3 := Tryz.underlying3
  a3 := Tryz.isAgg3
  z3 := Tryz.sizeOf3
  v3 := Tryz.zeroValue3
  t4 := Tryz.underlying4
  a4 := Tryz.isAgg4
  z4 := Tryz.sizeOf4
  v4 := Tryz.zeroValue4 }
open Go.RowKit in
/-- cmp.isNaN at int: 'x != x': false. (LAID: no walk: one application.) -/
theorem Tryz.cmp_isNaN_int (x : Int) (w : World) :
    Calls Tryz.prog 204 #[.int .i64 x] w fun e w' => e = .returned (.bool false) ∧ w' = w := Any.cmp_isNaN_int Tryz.lays215 x w
def Tryz.lays122_ren : Go.Shelf.Ren := ⟨fun | 122 => 194 | 215 => 204 | n => n, fun | 3 => 3 | 4 => 4 | n => n, fun | n => n⟩
theorem Tryz.lays122 : Go.Proofs.Lays.n122 Tryz.prog Tryz.lays122_ren := {
  mixed := by kernel_rfl
  f122 := Tryz.func194.trans (congrArg some (by kernel_rfl))
  f215 := Tryz.func204.trans (congrArg some (by kernel_rfl))
  t3 := Tryz.underlying3
  a3 := Tryz.isAgg3
  z3 := Tryz.sizeOf3
  v3 := Tryz.zeroValue3
  t4 := Tryz.underlying4
  a4 := Tryz.isAgg4
  z4 := Tryz.sizeOf4
  v4 := Tryz.zeroValue4 }
open Go.RowKit in
/-- cmp.Compare at int: "Compare returns -1 if x is less than y, 0 if x equals y, +1 if x is greater than y.": IT RETURNS 'Lib.compareInt x y'; the world is as it was. (LAID: no walk: one application.) -/
theorem Tryz.cmp_Compare_int (x y : Int) (w : World) :
    Calls Tryz.prog 194 #[.int .i64 x, .int .i64 y] w fun e w' => e = .returned (.int .i64 (Lib.compareInt x y)) ∧ w' = w := Any.cmp_Compare_int Tryz.lays122 x y w
def Tryz.lays129_ren : Go.Shelf.Ren := ⟨fun | 129 => 190 | n => n, fun | 53 => 231 | 3 => 3 | 4 => 4 | 46 => 199 | 5 => 5 | 9 => 9 | n => n, fun | n => n⟩
theorem Tryz.lays129 : Go.Proofs.Lays.n129 Tryz.prog Tryz.lays129_ren := {
  mixed := by kernel_rfl
  f129 := Tryz.func190.trans (congrArg some (by kernel_rfl))
  t3 := Tryz.underlying3
  a3 := Tryz.isAgg3
  z3 := Tryz.sizeOf3
  v3 := Tryz.zeroValue3
  t4 := Tryz.underlying4
  a4 := Tryz.isAgg4
  z4 := Tryz.sizeOf4
  v4 := Tryz.zeroValue4
  t5 := Tryz.underlying5
  a5 := Tryz.isAgg5
  z5 := Tryz.sizeOf5
  v5 := Tryz.zeroValue5
  t9 := Tryz.underlying9
  a9 := Tryz.isAgg9
  z9 := Tryz.sizeOf9
  v9 := Tryz.zeroValue9
  t46 := Tryz.underlying199
  a46 := Tryz.isAgg199
  z46 := Tryz.sizeOf199
  v46 := Tryz.zeroValue199
  t53 := Tryz.underlying231
  a53 := Tryz.isAgg231
  z53 := Tryz.sizeOf231
  v53 := Tryz.zeroValue231 }
/-- bits.Len64: "Len64 returns the minimum number of bits required to represent x; the result is 0 for x == 0.": IT RETURNS 'Lib.bitLen x'; the world is as it was. ('h0', 'h1': x is a uint64.) (LAID: no walk: one application.) -/
theorem Tryz.bits_Len64 (x : Int) (w : World) (h0 : 0 ≤ x) (h1 : x ≤ 18446744073709551615) :
    Calls Tryz.prog 190 #[.int .u64 x] w fun e w' => e = .returned (.int .i64 (Lib.bitLen x.toNat)) ∧ w' = w := Any.bits_Len64 Tryz.lays129 x w h0 h1
def Tryz.lays189_ren : Go.Shelf.Ren := ⟨fun | 189 => 82 | 125 => 152 | 257 => 151 | 128 => 189 | 129 => 190 | 294 => 180 | 295 => 181 | 296 => 182 | 297 => 183 | 298 => 184 | 299 => 185 | 216 => 186 | 300 => 187 | 301 => 188 | 328 => 199 | 329 => 200 | 330 => 201 | 331 => 202 | 332 => 203 | 215 => 204 | 343 => 214 | n => n, fun | 28 => 28 | 3 => 3 | 46 => 199 | 0 => 0 | 51 => 229 | 53 => 231 | 4 => 4 | 183 => 221 | 182 => 220 | 131 => 226 | 5 => 5 | 9 => 9 | 218 => 239 | 222 => 243 | 228 => 250 | 229 => 251 | n => n, fun | n => n⟩
theorem Tryz.lays189 : Go.Proofs.Lays.n189 Tryz.prog Tryz.lays189_ren := {
  mixed := by kernel_rfl
  f125 := Tryz.func152.trans (congrArg some (by kernel_rfl))
  f128 := Tryz.func189.trans (congrArg some (by kernel_rfl))
  f129 := Tryz.func190.trans (congrArg some (by kernel_rfl))
  f189 := Tryz.func82.trans (congrArg some (by kernel_rfl))
  f215 := Tryz.func204.trans (congrArg some (by kernel_rfl))
  f216 := Tryz.func186.trans (congrArg some (by kernel_rfl))
  f257 := Tryz.func151.trans (congrArg some (by kernel_rfl))
  f294 := Tryz.func180.trans (congrArg some (by kernel_rfl))
  f295 := Tryz.func181.trans (congrArg some (by kernel_rfl))
  f296 := Tryz.func182.trans (congrArg some (by kernel_rfl))
  f297 := Tryz.func183.trans (congrArg some (by kernel_rfl))
  f298 := Tryz.func184.trans (congrArg some (by kernel_rfl))
  f299 := Tryz.func185.trans (congrArg some (by kernel_rfl))
  f300 := Tryz.func187.trans (congrArg some (by kernel_rfl))
  f301 := Tryz.func188.trans (congrArg some (by kernel_rfl))
  f328 := Tryz.func199.trans (congrArg some (by kernel_rfl))
  f329 := Tryz.func200.trans (congrArg some (by kernel_rfl))
  f330 := Tryz.func201.trans (congrArg some (by kernel_rfl))
  f331 := Tryz.func202.trans (congrArg some (by kernel_rfl))
  f332 := Tryz.func203.trans (congrArg some (by kernel_rfl))
  f343 := Tryz.func214.trans (congrArg some (by kernel_rfl))
  t0 := Tryz.underlying0
  a0 := Tryz.isAgg0
  z0 := Tryz.sizeOf0
  v0 := Tryz.zeroValue0
  t3 := Tryz.underlying3
  a3 := Tryz.isAgg3
  z3 := Tryz.sizeOf3
  v3 := Tryz.zeroValue3
  t4 := Tryz.underlying4
  a4 := Tryz.isAgg4
  z4 := Tryz.sizeOf4
  v4 := Tryz.zeroValue4
  t5 := Tryz.underlying5
  a5 := Tryz.isAgg5
  z5 := Tryz.sizeOf5
  v5 := Tryz.zeroValue5
  t9 := Tryz.underlying9
  a9 := Tryz.isAgg9
  z9 := Tryz.sizeOf9
  v9 := Tryz.zeroValue9
  t28 := Tryz.underlying28
  a28 := Tryz.isAgg28
  z28 := Tryz.sizeOf28
  v28 := Tryz.zeroValue28
  t46 := Tryz.underlying199
  a46 := Tryz.isAgg199
  z46 := Tryz.sizeOf199
  v46 := Tryz.zeroValue199
  t51 := Tryz.underlying229
  a51 := Tryz.isAgg229
  z51 := Tryz.sizeOf229
  v51 := Tryz.zeroValue229
  t53 := Tryz.underlying231
  a53 := Tryz.isAgg231
  z53 := Tryz.sizeOf231
  v53 := Tryz.zeroValue231
  t131 := Tryz.underlying226
  a131 := Tryz.isAgg226
  z131 := Tryz.sizeOf226
  v131 := Tryz.zeroValue226
  t182 := Tryz.underlying220
  a182 := Tryz.isAgg220
  z182 := Tryz.sizeOf220
  v182 := Tryz.zeroValue220
  t183 := Tryz.underlying221
  a183 := Tryz.isAgg221
  z183 := Tryz.sizeOf221
  v183 := Tryz.zeroValue221
  t218 := Tryz.underlying239
  a218 := Tryz.isAgg239
  z218 := Tryz.sizeOf239
  v218 := Tryz.zeroValue239
  t222 := Tryz.underlying243
  a222 := Tryz.isAgg243
  z222 := Tryz.sizeOf243
  v222 := Tryz.zeroValue243
  t228 := Tryz.underlying250
  a228 := Tryz.isAgg250
  z228 := Tryz.sizeOf250
  v228 := Tryz.zeroValue250
  t229 := Tryz.underlying251
  a229 := Tryz.isAgg251
  z229 := Tryz.sizeOf251
  v229 := Tryz.zeroValue251 }
open Go.Sort Go.RowKit in
theorem Tryz.slices_Sort_int (blk off cap : Nat) (zs : List Int) (w : World) (hH : Holds (Value.int .i64) w blk off zs.toArray) (hblk : blk < w.heap.size) (hsz : zs.length < 4611686018427387904) :
    Calls Tryz.prog 82 #[.slice (some ⟨blk, off, none⟩) zs.length cap] w fun e w' =>
      e = .returned (.tuple #[]) ∧ ∃ n os, w' = grow (putRow (Value.int .i64) (Sort.ahead w n) blk off (zs.mergeSort fun x y => decide (x ≤ y)).toArray) os := Any.slices_Sort_int Tryz.lays189 blk off cap zs w hH hblk hsz
def Tryz.lays108_ren : Go.Shelf.Ren := ⟨fun | 108 => 160 | n => n, fun | 28 => 28 | 3 => 3 | 0 => 0 | 4 => 4 | n => n, fun | n => n⟩
theorem Tryz.lays108 : Go.Proofs.Lays.n108 Tryz.prog Tryz.lays108_ren := {
  mixed := by kernel_rfl
  f108 := Tryz.func160.trans (congrArg some (by kernel_rfl))
  t0 := Tryz.underlying0
  a0 := Tryz.isAgg0
  z0 := Tryz.sizeOf0
  v0 := Tryz.zeroValue0
  t3 := Tryz.underlying3
  a3 := Tryz.isAgg3
  z3 := Tryz.sizeOf3
  v3 := Tryz.zeroValue3
  t4 := Tryz.underlying4
  a4 := Tryz.isAgg4
  z4 := Tryz.sizeOf4
  v4 := Tryz.zeroValue4
  t28 := Tryz.underlying28
  a28 := Tryz.isAgg28
  z28 := Tryz.sizeOf28
  v28 := Tryz.zeroValue28 }
open Go.Lib in
/-- slices.Index at []int: "Index returns the index of the first occurrence of v in s, or -1 if not present.": IT RETURNS 'Lib.idxOf (the elements) v'; the world is as it was. 'zs': what the cells behind the slice's address hold (its spare capacity too, if you have it); 'zs.take n': its elements. (LAID: no walk: one application.) -/
theorem Tryz.slices_Index_int (b off n c : Nat) (zs : List Int) (x : Int) (w : World) (hz : n ≤ zs.length) (hbig : n ≤ 9223372036854775807) (hc : ∀ j, j < zs.length → w.cell? ⟨b, off + j, none⟩ = some (.int .i64 (zs.getD j 0))) :
    Calls Tryz.prog 160 #[.slice (some ⟨b, off, none⟩) n c, .int .i64 x] w fun e w' => e = .returned (.int .i64 (Lib.idxOf (zs.take n) x)) ∧ w' = w := Any.slices_Index_int Tryz.lays108 b off n c zs x w hz hbig hc
open Go.Lib in
/-- The same at a slice of length 0, a nil one too: no cell is known, none is asked for. (LAID: no walk: one application.) -/
theorem Tryz.slices_Index_int_empty (a : Option Addr) (c : Nat) (x : Int) (w : World) :
    Calls Tryz.prog 160 #[.slice a 0 c, .int .i64 x] w fun e w' => e = .returned (.int .i64 (Lib.idxOf [] x)) ∧ w' = w := Any.slices_Index_int_empty Tryz.lays108 a c x w
def Tryz.lays107_ren : Go.Shelf.Ren := ⟨fun | 107 => 119 | 108 => 160 | n => n, fun | 28 => 28 | 3 => 3 | 4 => 4 | 0 => 0 | n => n, fun | n => n⟩
theorem Tryz.lays107 : Go.Proofs.Lays.n107 Tryz.prog Tryz.lays107_ren := {
  mixed := by kernel_rfl
  f107 := Tryz.func119.trans (congrArg some (by kernel_rfl))
  f108 := Tryz.func160.trans (congrArg some (by kernel_rfl))
  t0 := Tryz.underlying0
  a0 := Tryz.isAgg0
  z0 := Tryz.sizeOf0
  v0 := Tryz.zeroValue0
  t3 := Tryz.underlying3
  a3 := Tryz.isAgg3
  z3 := Tryz.sizeOf3
  v3 := Tryz.zeroValue3
  t4 := Tryz.underlying4
  a4 := Tryz.isAgg4
  z4 := Tryz.sizeOf4
  v4 := Tryz.zeroValue4
  t28 := Tryz.underlying28
  a28 := Tryz.isAgg28
  z28 := Tryz.sizeOf28
  v28 := Tryz.zeroValue28 }
open Go.Lib in
/-- slices.Contains at []int: "Contains reports whether v is present in s.": IT RETURNS 'elements.contains v'; the world is as it was. ITS CALLEE slices.Index IS MET BY ITS OWN CONTRACT OFF THE SHELF (lay that first): no loop is walked here. (LAID: no walk: one application.) -/
theorem Tryz.slices_Contains_int (b off n c : Nat) (zs : List Int) (x : Int) (w : World) (hz : n ≤ zs.length) (hbig : n ≤ 9223372036854775807) (hc : ∀ j, j < zs.length → w.cell? ⟨b, off + j, none⟩ = some (.int .i64 (zs.getD j 0))) :
    Calls Tryz.prog 119 #[.slice (some ⟨b, off, none⟩) n c, .int .i64 x] w fun e w' => e = .returned (.bool ((zs.take n).contains x)) ∧ w' = w := Any.slices_Contains_int Tryz.lays107 b off n c zs x w hz hbig hc
open Go.Lib in
/-- The same at a slice of length 0, a nil one too. (LAID: no walk: one application.) -/
theorem Tryz.slices_Contains_int_empty (a : Option Addr) (c : Nat) (x : Int) (w : World) :
    Calls Tryz.prog 119 #[.slice a 0 c, .int .i64 x] w fun e w' => e = .returned (.bool false) ∧ w' = w := Any.slices_Contains_int_empty Tryz.lays107 a c x w
def Tryz.laysNm215_ren : Go.Shelf.Ren := ⟨fun | 15 => 84 | n => n, fun | 22 => 28 | 3 => 3 | 4 => 4 | n => n, fun | n => n⟩
theorem Tryz.laysNm215 : Go.Proofs.Lays2.n15 Tryz.prog Tryz.laysNm215_ren := {
  mixed := by kernel_rfl
  f15 := Tryz.func84.trans (congrArg some (by kernel_rfl))
  t3 := Tryz.underlying3
  a3 := Tryz.isAgg3
  z3 := Tryz.sizeOf3
  v3 := Tryz.zeroValue3
  t4 := Tryz.underlying4
  a4 := Tryz.isAgg4
  z4 := Tryz.sizeOf4
  v4 := Tryz.zeroValue4
  t22 := Tryz.underlying28
  a22 := Tryz.isAgg28
  z22 := Tryz.sizeOf28
  v22 := Tryz.zeroValue28
  i3 := by kernel_rfl }
open Go.RowKit Go.Lib in
/-- slices.Clone at []int: "Clone returns a copy of the slice. The elements are copied using assignment, so this is a shallow clone. The result may have additional unused capacity. The result preserves the nilness of s.": OF A SLICE THAT IS NOT nil IT RETURNS A SLICE THAT IS NOT nil, OF THE SAME ELEMENTS, IN MEMORY OF THE CALL's OWN: in the how-to's words (6f): 'w'.ownsRow B e 1 v' n cells': v' begins at the head of a row among the blocks from B on (B: the heap's size at the call), not frozen, whose first cells are the elements · 'Below B w w'': below B all is as it was. The capacity is whatever the run-time gives. 'zs': what the cells behind the slice's address hold; 'zs.take n': its elements. (LAID: no walk: one application.) -/
theorem Tryz.slices_Clone_int (b off n c : Nat) (zs : List Int) (w : World) (hz : n ≤ zs.length) (hbig : n * 8 ≤ 140737488355328) (hc : ∀ j, j < zs.length → w.cell? ⟨b, off + j, none⟩ = some (.int .i64 (zs.getD j 0))) :
    Calls Tryz.prog 84 #[.slice (some ⟨b, off, none⟩) n c] w fun e w' => ∃ v', e = .returned v' ∧ w'.ownsRow w.heap.size 3 1 v' n ((zs.take n).map (Value.int .i64)) ∧ v' ≠ .slice none 0 0 ∧ Below w.heap.size w w' := Any.slices_Clone_int Tryz.laysNm215 b off n c zs w hz hbig hc
open Go.RowKit Go.Lib in
/-- The same at nil: nil comes back; the world is as it was. (LAID: no walk: one application.) -/
theorem Tryz.slices_Clone_int_nil (n c : Nat) (w : World) :
    Calls Tryz.prog 84 #[.slice none n c] w fun e w' => e = .returned (.slice none 0 0) ∧ w' = w := Any.slices_Clone_int_nil Tryz.laysNm215 n c w
open Go.RowKit Go.Lib in
/-- The same at a slice of length 0 that is not nil, WHATEVER ITS ADDRESS (no cell is asked for): a slice that is not nil and owns nothing comes back. (LAID: no walk: one application.) -/
theorem Tryz.slices_Clone_int_zero (a : Addr) (c : Nat) (w : World) :
    Calls Tryz.prog 84 #[.slice (some a) 0 c] w fun e w' => ∃ v', e = .returned v' ∧ w'.ownsRow w.heap.size 3 1 v' 0 [] ∧ v' ≠ .slice none 0 0 ∧ Below w.heap.size w w' := Any.slices_Clone_int_zero Tryz.laysNm215 a c w
def Tryz.laysNm220_ren : Go.Shelf.Ren := ⟨fun | 20 => 83 | n => n, fun | 22 => 28 | 3 => 3 | 4 => 4 | 0 => 0 | n => n, fun | n => n⟩
theorem Tryz.laysNm220 : Go.Proofs.Lays2.n20 Tryz.prog Tryz.laysNm220_ren := {
  mixed := by kernel_rfl
  f20 := Tryz.func83.trans (congrArg some (by kernel_rfl))
  t0 := Tryz.underlying0
  a0 := Tryz.isAgg0
  z0 := Tryz.sizeOf0
  v0 := Tryz.zeroValue0
  t3 := Tryz.underlying3
  a3 := Tryz.isAgg3
  z3 := Tryz.sizeOf3
  v3 := Tryz.zeroValue3
  t4 := Tryz.underlying4
  a4 := Tryz.isAgg4
  z4 := Tryz.sizeOf4
  v4 := Tryz.zeroValue4
  t22 := Tryz.underlying28
  a22 := Tryz.isAgg28
  z22 := Tryz.sizeOf28
  v22 := Tryz.zeroValue28
  i3 := by kernel_rfl }
open Go.RowKit Go.Lib Go.Sort in
/-- slices.Compact at []int, over an array: the library's two loops are walked. (LAID: no walk: one application.) -/
theorem Tryz.slices_Compact_int_arr (blk off cap : Nat) (d : Array Int) (w : World) (hH : Holds encI w blk off d) (hsz : d.size ≤ 9223372036854775807) (hcap : d.size ≤ cap) :
    Calls Tryz.prog 83 #[.slice (some ⟨blk, off, none⟩) d.size cap] w fun e w' => e = .returned (.slice (some ⟨blk, off, none⟩) (compactUpTo d d.size).length cap) ∧ ∃ q, w' = putRow encI (Sort.ahead w q) blk off (compactUpTo d d.size ++ List.replicate (d.size - (compactUpTo d d.size).length) 0).toArray := Any.slices_Compact_int_arr Tryz.laysNm220 blk off cap d w hH hsz hcap
open Go.RowKit Go.Lib Go.Sort in
/-- slices.Compact at []int: "Compact replaces consecutive runs of equal elements with a single copy. This is like the uniq command found on Unix. Compact modifies the contents of the slice s and returns the modified slice, which may have a smaller length. Compact zeroes the elements between the new length and the original length. The result preserves the nilness of s.": IT RETURNS THE SLICE CUT TO 'Lib.compact zs'; ITS CELLS HOLD 'Lib.compact zs', THEN ZERO VALUES up to the old length; all else is as it was, but for the count of draws. IN THE WORDS OF slices.Sort's CONTRACT ('Holds', 'putRow'): so the everyday 'slices.Sort(xs); xs = slices.Compact(xs)' goes from the one contract to the other. It asks 'zs.length ≤ cap' (every slice's: the reslicing 's[:k]' looks at it). Length 0, nil: '.._empty'. (LAID: no walk: one application.) -/
theorem Tryz.slices_Compact_int (blk off cap : Nat) (zs : List Int) (w : World) (hH : Holds (Value.int .i64) w blk off zs.toArray) (hsz : zs.length ≤ 9223372036854775807) (hcap : zs.length ≤ cap) :
    Calls Tryz.prog 83 #[.slice (some ⟨blk, off, none⟩) zs.length cap] w fun e w' => e = .returned (.slice (some ⟨blk, off, none⟩) (Lib.compact zs).length cap) ∧ ∃ q, w' = putRow (Value.int .i64) (Sort.ahead w q) blk off (Lib.compact zs ++ List.replicate (zs.length - (Lib.compact zs).length) 0).toArray := Any.slices_Compact_int Tryz.laysNm220 blk off cap zs w hH hsz hcap
open Go.RowKit Go.Lib Go.Sort in
/-- The same at a slice of length 0, a nil one too: it comes back as it is. (LAID: no walk: one application.) -/
theorem Tryz.slices_Compact_int_empty (a : Option Addr) (cap : Nat) (w : World) :
    Calls Tryz.prog 83 #[.slice a 0 cap] w fun e w' => e = .returned (.slice a 0 cap) ∧ w' = w := Any.slices_Compact_int_empty Tryz.laysNm220 a cap w
def Tryz.laysNm237_ren : Go.Shelf.Ren := ⟨fun | 37 => 204 | n => n, fun | 3 => 3 | 4 => 4 | n => n, fun | n => n⟩
theorem Tryz.laysNm237 : Go.Proofs.Lays2.n37 Tryz.prog Tryz.laysNm237_ren := {
  mixed := by kernel_rfl
  f37 := Tryz.func204.trans (congrArg some (by kernel_rfl))
  t3 := Tryz.underlying3
  a3 := Tryz.isAgg3
  z3 := Tryz.sizeOf3
  v3 := Tryz.zeroValue3
  t4 := Tryz.underlying4
  a4 := Tryz.isAgg4
  z4 := Tryz.sizeOf4
  v4 := Tryz.zeroValue4 }
open Go.RowKit Go.Lib in
/-- cmp.isNaN[int]: 'x != x': false. (LAID: no walk: one application.) -/
theorem Tryz.cmp_isNaN_int2 (x : Int) (w : World) :
    Calls Tryz.prog 204 #[.int .i64 x] w fun e w' => e = .returned (.bool false) ∧ w' = w := Any.cmp_isNaN_int2 Tryz.laysNm237 x w
def Tryz.laysNm231_ren : Go.Shelf.Ren := ⟨fun | 31 => 186 | 37 => 204 | n => n, fun | 3 => 3 | 4 => 4 | n => n, fun | n => n⟩
theorem Tryz.laysNm231 : Go.Proofs.Lays2.n31 Tryz.prog Tryz.laysNm231_ren := {
  mixed := by kernel_rfl
  f31 := Tryz.func186.trans (congrArg some (by kernel_rfl))
  f37 := Tryz.func204.trans (congrArg some (by kernel_rfl))
  t3 := Tryz.underlying3
  a3 := Tryz.isAgg3
  z3 := Tryz.sizeOf3
  v3 := Tryz.zeroValue3
  t4 := Tryz.underlying4
  a4 := Tryz.isAgg4
  z4 := Tryz.sizeOf4
  v4 := Tryz.zeroValue4 }
open Go.RowKit Go.Lib in
/-- cmp.Less[int]: "Less reports whether x is less than y.": 'x < y'; the world is as it was. (LAID: no walk: one application.) -/
theorem Tryz.cmp_Less_int2 (x y : Int) (w : World) :
    Calls Tryz.prog 186 #[.int .i64 x, .int .i64 y] w fun e w' => e = .returned (.bool (decide (x < y))) ∧ w' = w := Any.cmp_Less_int2 Tryz.laysNm231 x y w
open Go.RowKit Go.Lib Go.Sort in
/-- slices.Compact at []int, of an argument: the slice cut to 'Lib.compact (elements)'; the n cells hold that, then zeros. (LAID: no walk: one application.) -/
theorem Tryz.slices_Compact_int_cells (b off n c : Nat) (zs : List Int) (w : World) (hz : n ≤ zs.length) (hbig : n ≤ 9223372036854775807) (hcap : n ≤ c) (hc : ∀ j, j < zs.length → w.cell? ⟨b, off + j, none⟩ = some (.int .i64 (zs.getD j 0))) (hf : ∀ j, j < n → w.frozen? ⟨b, off + j, none⟩ = false) :
    Calls Tryz.prog 83 #[.slice (some ⟨b, off, none⟩) n c] w fun e w' => e = .returned (.slice (some ⟨b, off, none⟩) (Lib.compact (zs.take n)).length c) ∧ ∃ q, w' = (w.drewN q).setCells b off ((Lib.compact (zs.take n) ++ List.replicate (n - (Lib.compact (zs.take n)).length) 0).map (Value.int .i64)) := Any.slices_Compact_int_cells Tryz.laysNm220 b off n c zs w hz hbig hcap hc hf
open Go.RowKit Go.Sort in
/-- .. and plain. (LAID: no walk: one application.) -/
theorem Tryz.slices_Sort_int_none (p : Option Addr) (cap : Nat) (w : World) :
    Calls Tryz.prog 82 #[.slice p 0 cap] w fun e w' => e = .returned (.tuple #[]) ∧ w' = w := Any.slices_Sort_int_none Tryz.lays189 p cap w
def Tryz.laysSlE041_f84_ren : Go.Shelf.Ren := ⟨fun | 41 => 84 | n => n, fun | 22 => 28 | 23 => 3 | 4 => 4 | n => n, fun | n => n⟩
theorem Tryz.laysSlE041_f84 : Go.Proofs.SlLaysE0.n41 Tryz.prog Tryz.laysSlE041_f84_ren := {
  mixed := by kernel_rfl
  f41 := ⟨Tryz.f84.name, by decide, Tryz.func84.trans (congrArg some (by kernel_rfl))⟩
  t4 := Tryz.underlying4
  a4 := Tryz.isAgg4
  z4 := Tryz.sizeOf4
  v4 := Tryz.zeroValue4
  t22 := Tryz.underlying28
  a22 := Tryz.isAgg28
  z22 := Tryz.sizeOf28
  v22 := Tryz.zeroValue28 }
open Go.RowKit Go.Lib in
/-- slices.Clone: "Clone returns a copy of the slice. The elements are copied using assignment, so this is a shallow clone. The result may have additional unused capacity. The result preserves the nilness of s.": OF A SLICE THAT IS NOT nil IT RETURNS A SLICE THAT IS NOT nil, OF THE SAME CELLS, IN MEMORY OF THE CALL's OWN ('ownsRow': the how-to's 6f); below the heap's size at the call all is as it was. (LAID AT THE INSTANCE 'slices.Clone[[]int,int]': no walk: one application.) -/
theorem Tryz.slices_Clone (i0 : TypeInfo) (z : Value) (size bytes : Nat) (hi : Tryz.prog.info? 3 = some i0) (hz0 : i0.zero = some z) (hz1 : i0.size = size) (hz2 : i0.bytes = bytes) (hzs : z.cells.size = size) (hsz : 0 < size) (z23 : ∀ w, (Go.sizeOf 3).run Tryz.prog w = .ok size w) (b off n c : Nat) (news : List Value) (w : World) (hl : news.length = n * size) (hn : n ≤ maxLen) (hbig : n * bytes ≤ 140737488355328) (hc : ∀ j u, news[j]? = some u → w.cell? ⟨b, off + j, none⟩ = some u) (h1 : ∀ u ∈ news, u.oneCell' = true) :
    Calls Tryz.prog 84 #[.slice (some ⟨b, off, none⟩) n c] w fun e w' => ∃ v', e = .returned v' ∧ w'.ownsRow w.heap.size 3 size v' n news ∧ v' ≠ .slice none 0 0 ∧ Below w.heap.size w w' := AnyE.slices_Clone Tryz.laysSlE041_f84 i0 z size bytes hi hz0 hz1 hz2 hzs hsz z23 b off n c news w hl hn hbig hc h1
open Go.RowKit Go.Lib in
/-- The same at nil: nil comes back; the world is as it was; nothing is asked of the element's type. (LAID AT THE INSTANCE 'slices.Clone[[]int,int]': no walk: one application.) -/
theorem Tryz.slices_Clone_nil (n c : Nat) (w : World) :
    Calls Tryz.prog 84 #[.slice none n c] w fun e w' => e = .returned (.slice none 0 0) ∧ w' = w := AnyE.slices_Clone_nil Tryz.laysSlE041_f84 n c w
end Go.Proofs
end
