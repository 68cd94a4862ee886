/- Environments for ranges over functions: the body of a round; the iterator that calls it; Courses by their number: digits to the base 3; what runs over the courses of a life find; slices.Clone at rows of data, by the kit's contract; slices.Clone at boxes, sights, notes; Kinds. (Printed by genr.py.). -/
import Derived.Shelf.SlicesE.Clone
import Derived.Test.YthgllnnlngihoaaGreatSz10
section
set_option linter.unusedVariables false
set_option linter.unusedSimpArgs false
set_option maxRecDepth 100000
namespace Go.Proofs.YthgllnnlngihoaaGreat.Sx
open Go.RowKit

noncomputable def enP (l : List (FuncId × Spec)) (regs : Nat → Bool) (pts : Fn → Option Pt) : En := ⟨fun _ => F0, fun _ => Tryz.prog, tab, fun _ => none, gamL l, false, regs, pts⟩
theorem enP_ok {l : List (FuncId × Spec)} (h : AllSpecs l) {regs : Nat → Bool} {pts : Fn → Option Pt} (hp : ∀ fn p, pts fn = some p → PtOk F0 Tryz.prog fn p) : (enP l regs pts).Ok :=
  { fn := fun _ => trivial, depth := rfl, tab := tab_ok, eq := fun t n h => (by cases h), gam := gamL_ok h, mixed := mixed_ok, pts := hp }
/-- .. within a round. -/
noncomputable def enB (l : List (FuncId × Spec)) (lb : Nat) : En := ⟨fun _ => F0.inRound lb, fun _ => Tryz.prog, tab, fun _ => none, gamL l, false, fun _ => false, fun _ => none⟩
theorem enB_ok {l : List (FuncId × Spec)} (h : AllSpecs l) (lb : Nat) : (enB l lb).Ok :=
  { fn := fun _ => trivial, depth := rfl, tab := tab_ok, eq := fun t n h => (by cases h), gam := fun f sp hg => (gamL_ok h f sp hg).inRound lb, mixed := mixed_ok, pts := fun _ _ h => by cases h }
noncomputable def pt87 : Pt := fun X args m base K => ptFn (en []) Tryz.f87 (fbody Tryz.f87) X args m base K
theorem pt87_ok : PtOk F0 Tryz.prog (.func 87) pt87 := ptFn_ok (e := en []) (en_ok trivial) rfl (f := 87) (fn := Tryz.f87) (c := fbody Tryz.f87) (by kernel_rfl) rfl rfl (by kernel_rfl)
noncomputable def pts87 : Fn → Option Pt := fun fn => match fn with
  | .func f => match Nat.beq f 87 with
    | true => some pt87
    | false => none
  | _ => none
theorem pts87_ok : ∀ fn p, pts87 fn = some p → PtOk F0 Tryz.prog fn p := by
  intro fn p h
  unfold pts87 at h
  split at h
  · split at h
    · rename_i hb
      have hb := Nat.eq_of_beq_eq_true hb
      subst hb
      cases h
      exact pt87_ok
    · cases h
  · cases h
/-- What a round of one loop does. -/
noncomputable def ptsY (lb : Nat) (p : Pt) : Fn → Option Pt := fun fn => match fn with
  | .yield l => if l = lb then some p else none
  | _ => none
theorem ptsY_ok {lb : Nat} {p : Pt} (h : PtOk F0 Tryz.prog (.yield lb) p) : ∀ fn q, ptsY lb p fn = some q → PtOk F0 Tryz.prog fn q := by
  intro fn q hq
  unfold ptsY at hq
  split at hq
  · split at hq
    · rename_i e
      subst e
      cases hq
      exact h
    · cases hq
  · cases hq
/-- The iterator over courses, entered in place, in a loop whose rounds are given. -/
noncomputable def pt153 (lb : Nat) (p : Pt) : Pt := ptFn (enP [(74, spTell)] (fun r => Nat.beq r 2) (ptsY lb p)) Tryz.f153 (fbody Tryz.f153)
theorem pt153_ok {lb : Nat} {p : Pt} (h : PtOk F0 Tryz.prog (.yield lb) p) : PtOk F0 Tryz.prog (.func 153) (pt153 lb p) :=
  ptFn_ok (e := enP [(74, spTell)] (fun r => Nat.beq r 2) (ptsY lb p)) (enP_ok (l := [(74, spTell)]) ⟨okTell, trivial⟩ (ptsY_ok h)) rfl (f := 153) (fn := Tryz.f153) (c := fbody Tryz.f153) (by kernel_rfl) rfl rfl (by kernel_rfl)
end Go.Proofs.YthgllnnlngihoaaGreat.Sx
end
section
set_option linter.unusedVariables false
set_option linter.unusedSimpArgs false
set_option maxRecDepth 100000
namespace Go.Proofs.YthgllnnlngihoaaGreat.Sx
open Go.RowKit

/-- .. of a function that holds a range over a function; its environment may be chosen call by call. -/
theorem spec_genM (id : Nat) {f : FuncId} {fn : Func} {c : Code} (hf : Tryz.prog.funcs[f]? = some fn) (hb : fn.body = some c) (hname : (fn.name == "runtime.NumGoroutine") = false) (hck : codeOk fn.ntmps c = true) {sp : Spec} (hcg : sp.Congr)
    (h : ∀ args M base, (sp args M base).side → ∃ (l : List (FuncId × Spec)) (regs : Nat → Bool) (cargs : List IV) (obs : List Ob) (r : Nat → IV) (news : Nat → List Ob), AllSpecs l ∧ cargs.length ≤ fn.ntmps ∧ sameShape args cargs ∧ Flat M 0 (args.flatMap (·.cells)) (cargs.flatMap (·.cells)) obs ∧
      (sp args M base).r = r base ∧ (sp args M base).news = news base ∧ (sp args M base).upd = [] ∧ IvLe (tauN base (news 0).length) (r 0) (r base) ∧ All2 (ObLe (tauN base (news 0).length)) (news 0) (news base) ∧ (∀ ob ∈ news base, ob.own = true ∨ ¬ ob.occ) ∧
      ∀ B, vc (enP l regs pts87) ⟨fun _ => none, B, fun _ => False, fn.ntmps, some id⟩ c (start cargs obs) fun x st => isRet x ∧ markP tab fn.results.toList id (fun st => ∃ js, FinBy tab fn.results.toList js st (r 0) (news 0)) st) : SpecOk F0 Tryz.prog f sp := by
  refine ⟨hcg, ⟨fn, c, hf, hb, hname⟩, fun n B O σ M w args vals base hS ha hs hnew hfree => ?_⟩
  obtain ⟨l, regs, cargs, obs, r, news, h0, h1, h2, h3, h4, h5, h6, h7, h8, h9, h10⟩ := h args M base hs
  exact calls_at_marks (e := enP l regs pts87) id (enP_ok h0 pts87_ok) rfl hf hb hck ⟨r, news, fun B O σ w vals hS ha => (let ⟨vs, k1, k2⟩ := flat_loc hS h2 h3 ha; ⟨cargs, obs, vs, h1, h3.lent, k1, k2, h10⟩), h4, h5, h6, h7, h8, h9⟩ n B O σ w vals hS ha hnew hfree
theorem own1 {ob : Ob} (h : ob.own = true) : ∀ o ∈ [ob], o.own = true ∨ ¬ o.occ := by
  intro o ho
  rcases List.mem_cons.1 ho with e | h'
  · subst e; exact .inl h
  · cases h'
/-- A meaning, said of fewer calls. -/
theorem SpecOk.narrow {F : Fence} {P : Program} {f : FuncId} {sp sp' : Spec} (h : SpecOk F P f sp) (hc : sp'.Congr) (he : ∀ args M base, (sp' args M base).side → (sp args M base).side ∧ (sp' args M base).r = (sp args M base).r ∧ (sp' args M base).news = (sp args M base).news ∧ (sp' args M base).upd = (sp args M base).upd) : SpecOk F P f sp' := by
  refine ⟨hc, h.enters, fun n B O σ M w args vals base hS ha hs hnew hfree => ?_⟩
  obtain ⟨h1, h2, h3, h4⟩ := he args M base hs
  rw [h3] at hnew hfree
  refine (h.calls n B O σ M w args vals base hS ha h1 hnew hfree).mono fun e w' hh => ?_
  cases e with
  | panicked _ => exact hh
  | outgrown => exact hh
  | returned v =>
    obtain ⟨σ', hh⟩ := hh
    exact ⟨σ', hh.le, by rw [h3]; exact hh.dom, by rw [h2]; exact hh.r, by rw [h4]; exact hh.sim, hh.keep⟩
/-- .. its values said in other words. -/
theorem SpecOk.reword {F : Fence} {P : Program} {f : FuncId} {sp sp' : Spec} (h : SpecOk F P f sp) (hc : sp'.Congr) (he : ∀ args M base, (sp' args M base).side → (sp args M base).side ∧ (∀ σ v, IR σ (sp args M base).r v → IR σ (sp' args M base).r v) ∧ (sp' args M base).news = (sp args M base).news ∧ (sp' args M base).upd = (sp args M base).upd) : SpecOk F P f sp' := by
  refine ⟨hc, h.enters, fun n B O σ M w args vals base hS ha hs hnew hfree => ?_⟩
  obtain ⟨h1, h2, h3, h4⟩ := he args M base hs
  rw [h3] at hnew hfree
  refine (h.calls n B O σ M w args vals base hS ha h1 hnew hfree).mono fun e w' hh => ?_
  cases e with
  | panicked _ => exact hh
  | outgrown => exact hh
  | returned v =>
    obtain ⟨σ', hh⟩ := hh
    exact ⟨σ', hh.le, by rw [h3]; exact hh.dom, h2 _ _ hh.r, by rw [h4]; exact hh.sim, hh.keep⟩
/-- How many changes a course has: by name, the numbers given. -/
def spCh (a m1 m2 : Nat) : Spec := fun args M _ => match args with
  | [.one (.ref i)] => match Nat.beq i a with
    | true => ⟨In fun _ => (okInts M (.ref i) ∧ (ints M (.ref i)).length ≤ 140737488355328) ∧ changesN (ints M (.ref i)) = m1, cint .i64 (.nat (fun _ => m1) 0), [], [], (seen M (.ref i)).reads⟩
    | false => ⟨In fun _ => (okInts M (.ref i) ∧ (ints M (.ref i)).length ≤ 140737488355328) ∧ changesN (ints M (.ref i)) = m2, cint .i64 (.nat (fun _ => m2) 0), [], [], (seen M (.ref i)).reads⟩
  | _ => bad
theorem okCh (a m1 m2 : Nat) : SpecOk F0 Tryz.prog 90 (spCh a m1 m2) := by
  refine okChanges.narrow (fun args M M' base hs h => ?_) fun args M base hs => ?_
  · unfold spCh at *
    split at hs
    · rename_i i
      cases hb : Nat.beq i a <;> simp only [hb] at h ⊢ <;> simp only [ints, okInts] at h ⊢ <;> rw [seen_congr (M := M) (M' := M') h]
    · exact hs.elim
  · unfold spCh at hs ⊢
    split at hs
    · rename_i i
      cases hb : Nat.beq i a <;> simp only [hb] at hs ⊢ <;> obtain ⟨h1, h2⟩ := hs.ok <;> exact ⟨⟨h1⟩, by unfold spChanges; simp only [h2], rfl, rfl⟩
    · exact hs.elim
/-- What is entered, chosen call by call. -/
def ptEx {ι : Type} (p : ι → Pt) : Pt := fun X args m base K => ∃ i, p i X args m base K
theorem ptEx_ok {ι : Type} {F : Fence} {P : Program} {fn : Fn} {p : ι → Pt} (h : ∀ i, PtOk F P fn (p i)) : PtOk F P fn (ptEx p) :=
  ⟨fun X args m base K K' hk ⟨i, hi⟩ => ⟨i, (h i).1 _ _ _ _ _ _ hk hi⟩, fun X args m base K ⟨i, hi⟩ => (h i).2 _ _ _ _ _ hi⟩
def dig (n k : Nat) : Nat := n / 3 ^ k % 3
def crs (c n : Nat) : List Int := (List.range c).map fun k => (dig n k : Int)
theorem dig_lt (n k : Nat) : dig n k < 3 := Nat.mod_lt _ (by decide)
theorem crs_len (c n : Nat) : (crs c n).length = c := by simp [crs]
theorem crs_get {c n k : Nat} (h : k < c) : (crs c n).getD k 0 = (dig n k : Int) := by
  unfold crs
  rw [List.getD_eq_getElem?_getD]
  simp [h]
theorem dig_zero (k : Nat) : dig 0 k = 0 := by unfold dig; simp
theorem low_all {n : Nat} : ∀ (k : Nat), (∀ j, j < k → dig n j = 2) → n % 3 ^ k + 1 = 3 ^ k
  | 0, _ => by simp [Nat.mod_one]
  | k + 1, h => by
    have ih := low_all k fun j hj => h j (by omega)
    have hk : n / 3 ^ k % 3 = 2 := h k (by omega)
    rw [Nat.pow_succ, Nat.mod_mul, hk]
    omega
theorem next_form {n k : Nat} (h : ∀ j, j < k → dig n j = 2) : n + 1 = 3 ^ k * (n / 3 ^ k + 1) := by
  have h1 := low_all k h
  have h2 := Nat.div_add_mod n (3 ^ k)
  rw [Nat.mul_add, Nat.mul_one]
  omega
theorem pow3_pos (k : Nat) : 0 < 3 ^ k := Nat.pow_pos (by decide)
theorem dig_next {n k : Nat} (h : ∀ j, j < k → dig n j = 2) (hk : dig n k < 2) (j : Nat) : dig (n + 1) j = if j < k then 0 else if j = k then dig n k + 1 else dig n j := by
  have hf := next_form h
  have hp := pow3_pos k
  by_cases h1 : j < k
  · rw [if_pos h1]
    unfold dig
    obtain ⟨d, rfl⟩ : ∃ d, k = j + (d + 1) := ⟨k - j - 1, by omega⟩
    rw [hf, Nat.pow_add, Nat.mul_assoc, Nat.mul_div_cancel_left _ (pow3_pos j), Nat.pow_succ, Nat.mul_assoc, Nat.mul_left_comm]
    exact Nat.mul_mod_right 3 _
  · rw [if_neg h1]
    unfold dig at hk ⊢
    generalize hq : n / 3 ^ k = q at hf hk
    by_cases h2 : j = k
    · subst h2
      rw [if_pos rfl, hf, Nat.mul_div_cancel_left _ hp]
      omega
    · rw [if_neg h2]
      obtain ⟨d, rfl⟩ : ∃ d, j = k + (d + 1) := ⟨j - k - 1, by omega⟩
      have e : ∀ m, m / 3 ^ (k + (d + 1)) = m / 3 ^ k / 3 / 3 ^ d := fun m => by
        rw [Nat.pow_add, Nat.pow_succ', ← Nat.div_div_eq_div_mul, ← Nat.div_div_eq_div_mul]
      rw [e, e, hq, hf, Nat.mul_div_cancel_left _ hp]
      have : (q + 1) / 3 = q / 3 := by omega
      rw [this]
theorem dig_last {n c : Nat} (h : ∀ j, j < c → dig n j = 2) (hn : n < 3 ^ c) : n + 1 = 3 ^ c := by
  have h1 := low_all c h
  rw [Nat.mod_eq_of_lt hn] at h1
  exact h1
theorem dig_more {n k c : Nat} (hk : k < c) (h : dig n k < 2) (hn : n < 3 ^ c) : n + 1 < 3 ^ c := by
  rcases Nat.lt_or_ge (n + 1) (3 ^ c) with h1 | h1
  · exact h1
  · exfalso
    have e : n + 1 = 3 ^ c := by omega
    obtain ⟨d, rfl⟩ : ∃ d, c = k + (d + 1) := ⟨c - k - 1, by omega⟩
    have hp := pow3_pos k
    have hd := pow3_pos d
    unfold dig at h
    rw [Nat.pow_add, Nat.pow_succ] at e
    have h2 := Nat.div_add_mod n (3 ^ k)
    have h3 := Nat.mod_lt n hp
    generalize n / 3 ^ k = q at *
    generalize n % 3 ^ k = r at *
    -- 3^k q + r + 1 = 3^k (3^d * 3)
    have h4 : q + 1 = 3 ^ d * 3 := by
      have h5 : 3 ^ k * (q + 1) ≥ n + 1 := by rw [Nat.mul_add]; omega
      have h6 : 3 ^ k * (q + 1) < 3 ^ k * (3 ^ d * 3) + 3 ^ k := by rw [Nat.mul_add]; omega
      rw [e] at h5
      have h7 := Nat.le_of_mul_le_mul_left h5 hp
      rw [show 3 ^ k * (3 ^ d * 3) + 3 ^ k = 3 ^ k * (3 ^ d * 3 + 1) by rw [Nat.mul_add, Nat.mul_one]] at h6
      have h8 := Nat.lt_of_mul_lt_mul_left h6
      omega
    omega
/-- The course while the iterator goes on: its first k digits are turned. -/
def crsK (n k e : Nat) : Nat := if e < k then 0 else dig n e

def kindRow (c : Nat) (f : Nat → Nat) : Ob := .row .own 3 1 (.sy (fun _ => c) 0) fun e => [.i .i64 (.nat (fun _ => f e) 0)]
section
variable (st pl sk : Int) (ss : List SightD) (ns : List NoteD)
def okN (n : Nat) : Bool := tellOk st pl sk ss ns (crs (ss.length - 1) n)
/-- What Kinds has found among the first n courses. -/
def orK : Nat → Nat → Nat
  | 0, _ => 0
  | n + 1, k => bif okN st pl sk ss ns n then orK n k ||| 2 ^ dig n k else orK n k
def someK : Nat → Bool
  | 0 => false
  | n + 1 => okN st pl sk ss ns n || someK n
theorem orK_le (n k : Nat) : orK st pl sk ss ns n k ≤ 7 := by
  induction n with
  | zero => simp [orK]
  | succ n ih =>
    unfold orK
    cases okN st pl sk ss ns n with
    | false => exact ih
    | true =>
      have h1 : orK st pl sk ss ns n k < 2 ^ 3 := by omega
      have h2 : 2 ^ dig n k < 2 ^ 3 := Nat.pow_lt_pow_right (by decide) (dig_lt n k)
      have := Nat.or_lt_two_pow h1 h2
      show orK st pl sk ss ns n k ||| 2 ^ dig n k ≤ 7
      omega
end
theorem eqIP_of {x y : IX} (h : y.val = x.val) : eqIP x y := by
  unfold eqIP
  split
  · exact isT_iff.2 (decide_eq_true h.symm)
  · refine ⟨?_⟩
    simp only [IX.val, addN_eq] at h
    omega
  · exact ⟨h⟩
theorem int1_le {τ : Nat → Option Src} {x y : IX} (h : y.val = x.val) : All2 (CvLe τ) [.i .i64 x] [.i .i64 y] := ⟨⟨isT_iff.2 rfl, eqIP_of h⟩, trivial⟩
theorem put1_le {τ : Nat → Option Src} {e j : Nat} {a : CV} {x y z : IX} (h1 : e = j → z.val = x.val) (h2 : e ≠ j → z.val = y.val) : All2 (CvLe τ) (if e = j then splice [a] 0 [.i .i64 x] else [.i .i64 y]) [.i .i64 z] := by
  by_cases h : e = j
  · rw [if_pos h]; exact int1_le (h1 h)
  · rw [if_neg h]; exact int1_le (h2 h)
/-- What a life must be for its courses to be told. -/
structure RunOk (st pl sk : Int) (ss : List SightD) (ns : List NoteD) : Prop where
  hab : HabitOk st pl sk
  life : LifeOk ss
  pos : 0 < ss.length
  few : ss.length ≤ 9
  notes : ns.length ≤ 20
theorem runOk_of_check {st pl sk : Int} {ss : List SightD} {ns : List NoteD} (hc : checkE st pl sk ss ns = 0) : RunOk st pl sk ss ns := by
  obtain ⟨a, b, c, d, e⟩ := check_ok hc
  exact ⟨a, b, c, d, e⟩
theorem run_thru {st pl sk : Int} {ss : List SightD} {ns : List NoteD} (H : RunOk st pl sk ss ns) (n : Nat) : ThruIn ss ss (crs (ss.length - 1) n) st pl sk := by
  have h1 := H.few
  have h2 := H.pos
  refine ⟨rfl, H.hab, H.life, fun k hk => ?_, h2, by omega, by rw [crs_len]; omega⟩
  rw [crs_len] at hk
  have := dig_lt n k
  unfold okKind kindAt
  rw [crs_get hk]
  omega
theorem courseB_crs {L n : Nat} (h : 0 < L) : courseB L (crs (L - 1) n) = true := by
  unfold courseB kindsTo
  rw [Bool.and_eq_true, decide_eq_true_eq, crs_len]
  refine ⟨by omega, List.all_eq_true.2 fun j hj => ?_⟩
  have hj := List.mem_range.1 hj
  rw [crs_get hj]
  have := dig_lt n j
  simp only [Bool.and_eq_true, decide_eq_true_eq]
  omega
theorem crs_given {st pl sk : Int} {ss : List SightD} {ns : List NoteD} (hc : checkE st pl sk ss ns = 0) (n : Nat) : givenE st pl sk ss ns (crs (ss.length - 1) n) = 0 := by
  unfold givenE
  rw [hc, courseB_crs (check_ok hc).2.2.1]
  rfl
end Go.Proofs.YthgllnnlngihoaaGreat.Sx
end
section
set_option linter.unusedVariables false
set_option linter.unusedSimpArgs false
set_option maxRecDepth 100000
namespace Go.Proofs.YthgllnnlngihoaaGreat.Sx
open Go.RowKit Go.Sort

section
variable {α : Type} (C : Cod α)
def rowT (xs : Unit → List α) : Ob := .row .own C.t C.k (.sy (fun _ => (xs ()).length) 0) fun e => C.enc fun _ => (xs ()).getD e C.d
theorem cell_lt {e n k j : Nat} (he : e < n) (hj : j < k) : e * k + j < n * k := by
  have : (e + 1) * k ≤ n * k := Nat.mul_le_mul_right k he
  rw [Nat.add_mul, Nat.one_mul] at this
  omega
/-- The cells of a row that is read. -/
def cellsAt (w : World) (b o m : Nat) : List Value := (List.range m).map fun j => (w.cell? ⟨b, o + j, none⟩).getD undef
theorem cellsAt_get {w : World} {b o m j : Nat} {u : Value} (h : (cellsAt w b o m)[j]? = some u) : j < m ∧ (w.cell? ⟨b, o + j, none⟩).getD undef = u := by
  unfold cellsAt at h
  have hj : j < m := by
    have := (List.getElem?_eq_some_iff.1 h).1
    simpa using this
  simp [hj] at h
  exact ⟨hj, h⟩
theorem cellsAt_len (w : World) (b o m : Nat) : (cellsAt w b o m).length = m := by simp [cellsAt]
theorem rowAt_cell {σ : Ren} {rd : Nat → Option Value} {xs : List α} (hr : RowAt σ rd C.k xs.length fun e => C.enc fun _ => xs.getD e C.d) {j : Nat} (hj : j < xs.length * C.k) : ∃ u c, rd j = some u ∧ (C.enc fun _ => xs.getD (j / C.k) C.d)[j % C.k]? = some c ∧ CR σ c u := by
  have hk := C.kpos
  have he : j / C.k < xs.length := Nat.div_lt_of_lt_mul (by rw [Nat.mul_comm]; exact hj)
  have hm : j % C.k < C.k := Nat.mod_lt _ hk
  obtain ⟨hl, hc⟩ := hr (j / C.k) he
  have hl : (C.enc fun _ => xs.getD (j / C.k) C.d).length = C.k := hl
  obtain ⟨u, hu, hcr⟩ := hc (j % C.k) _ (List.getElem?_eq_getElem (by rw [hl]; exact hm))
  refine ⟨u, _, ?_, List.getElem?_eq_getElem (by rw [hl]; exact hm), hcr⟩
  rw [show j / C.k * C.k + j % C.k = j by rw [Nat.mul_comm]; exact Nat.div_add_mod j C.k] at hu
  exact hu
theorem own_of_rowC {σ σ' : Ren} {w w' : World} {B b o : Nat} {xs : List α} {v : Value} (hle : Ren.le σ σ') (hr : RowAt σ (fun n => w.cell? ⟨b, o + n, none⟩) C.k xs.length fun e => C.enc fun _ => xs.getD e C.d)
    (h : w'.ownsRow B C.t C.k v xs.length (cellsAt w b o (xs.length * C.k))) : ObRel σ' w' (rowOf C .own xs) v := by
  obtain ⟨_, ⟨e, hn⟩ | ⟨g, cap, cur, e, _, hg, h1, h2, h3, h4⟩⟩ := h
  · exact ⟨C.kpos, .inl ⟨e, hn⟩⟩
  · refine ⟨C.kpos, .inr ⟨g, cap, cur, e, hg, h1, h2, h3, fun e he => ⟨(hr e he).1, fun j c hj => ?_⟩⟩⟩
    have he : e < xs.length := he
    have hjk : j < C.k := by
      have := (List.getElem?_eq_some_iff.1 hj).1
      rw [C.len] at this
      exact this
    have hlt := cell_lt he hjk
    obtain ⟨u, hu, hcr⟩ := (hr e he).2 j c hj
    have hu : w.cell? ⟨b, o + (e * C.k + j), none⟩ = some u := hu
    refine ⟨u, ?_, hcr.le hle⟩
    have h5 : (cur.toList.take (xs.length * C.k))[e * C.k + j]? = (cellsAt w b o (xs.length * C.k))[e * C.k + j]? := by rw [h4]
    rw [List.getElem?_take_of_lt hlt, Array.getElem?_toList] at h5
    show cur[e * C.k + j]? = _
    rw [h5]
    unfold cellsAt
    simp [hlt, hu]
def spCloneC (bytes : Nat) : Spec := fun args M base => match args with
  | [.one c] => ⟨In fun _ => okRow C (seen M c) ∧ 0 < (listOf C (seen M c)).length ∧ (listOf C (seen M c)).length * bytes ≤ 140737488355328, .one (.ref base), [rowT C fun _ => listOf C (seen M c)], [], (seen M c).reads⟩
  | _ => bad
theorem congrCloneC (bytes : Nat) : (spCloneC C bytes).Congr := by
  intro args M M' base hs h
  unfold spCloneC at *
  split at hs
  · simp only at h ⊢
    rw [seen_congr (M := M) (M' := M') h]
  · exact hs.elim
theorem okCloneC {f : FuncId} (bytes : Nat) (hen : Enters Tryz.prog f)
    (hf : ∀ (b off n c : Nat) (news : List Value) (w : World), news.length = n * C.k → n ≤ maxLen → n * bytes ≤ 140737488355328 → (∀ j u, news[j]? = some u → w.cell? ⟨b, off + j, none⟩ = some u) → (∀ u ∈ news, u.oneCell' = true) →
      Calls Tryz.prog f #[.slice (some ⟨b, off, none⟩) n c] w fun e w' => ∃ v', e = .returned v' ∧ w'.ownsRow w.heap.size C.t C.k v' n news ∧ v' ≠ .slice none 0 0 ∧ Below w.heap.size w w') : SpecOk F0 Tryz.prog f (spCloneC C bytes) := by
  refine ⟨congrCloneC C bytes, hen, fun n B O σ M w args vals base hS ha hs hnew hfree => ?_⟩
  unfold spCloneC at hs hnew hfree ⊢
  split at hs
  · rename_i c
    obtain ⟨hok, hpos, hsz⟩ := hs.ok
    match vals, ha with
    | [v], ha =>
      obtain ⟨A, cp, rfl, h1, h2, hk, h3⟩ := loc_row (σ' := σ) C hS ha.1 hok
      obtain ⟨b, o, rfl, hr⟩ := h3 hpos
      refine callsIn_wide.2 ?_
      have hMb : M base = some (rowT C fun _ => listOf C (seen M c)) := hnew 0 _ rfl
      have hσb : σ base = none := hfree 0 (by simp)
      generalize hxs : listOf C (seen M c) = xs at *
      refine (hf b o xs.length cp (cellsAt w b o (xs.length * C.k)) w (cellsAt_len ..) (Nat.le_trans h1 h2) hsz (fun j u hu => ?_) fun u hu => ?_).mono fun e w' h => ?_
      · obtain ⟨hj, he⟩ := cellsAt_get hu
        obtain ⟨u', _, h5, _⟩ := rowAt_cell C hr hj
        have h5 : w.cell? ⟨b, o + j, none⟩ = some u' := h5
        rw [h5] at he ⊢
        exact congrArg some he
      · obtain ⟨j, hj⟩ := List.mem_iff_getElem?.1 hu
        obtain ⟨hj, he⟩ := cellsAt_get hj
        obtain ⟨u', _, h5, _, h6⟩ := rowAt_cell C hr hj
        have h5 : w.cell? ⟨b, o + j, none⟩ = some u' := h5
        rw [h5] at he
        have he : u' = u := he
        subst he
        exact h6.1
      · obtain ⟨v', rfl, ho, _, hb⟩ := h
        have ho' := ho
        refine ⟨_, StepOk.make hS hb ?_ hMb hσb (own_of_rowC C (Ren.le_set v' hσb) hr ho) fun _ b' hbk => ?_⟩
        · obtain ⟨_, ⟨e, _⟩ | ⟨g, cap, cur, e, _⟩⟩ := ho' <;> rw [e] <;> rfl
        · obtain ⟨_, ⟨e, _⟩ | ⟨g, cap, cur, e, hge, _⟩⟩ := ho'
          · rw [e] at hbk; simp [blkOf, addrOf] at hbk
          · rw [e] at hbk; simp [blkOf, addrOf] at hbk; omega
  · exact hs.elim
end
end Go.Proofs.YthgllnnlngihoaaGreat.Sx
end
section
set_option linter.unusedVariables false
set_option linter.unusedSimpArgs false
set_option maxRecDepth 100000
namespace Go.Proofs.YthgllnnlngihoaaGreat.Sx
open Go.RowKit Go.Sort

def renClone (f sl el : Nat) : Go.Shelf.Ren := ⟨fun | 41 => f | n => n, fun | 22 => sl | 23 => el | 4 => 4 | n => n, fun | n => n⟩
theorem clone_of (f sl el k bytes : Nat) (L : Go.Proofs.SlLaysE0.n41 Tryz.prog (renClone f sl el)) (h : (Tryz.prog.info? el).map (fun i => (i.zero.map (fun z => z.cells.size), i.size, i.bytes)) = some (some k, k, bytes)) (z : ∀ w, (Go.sizeOf el).run Tryz.prog w = .ok k w) (hk : 0 < k)
    (b off n c : Nat) (news : List Value) (w : World) (hl : news.length = n * k) (hn : n ≤ maxLen) (hb : n * bytes ≤ 140737488355328) (hc : ∀ j u, news[j]? = some u → w.cell? ⟨b, off + j, none⟩ = some u) (h1 : ∀ u ∈ news, u.oneCell' = true) :
    Calls Tryz.prog f #[.slice (some ⟨b, off, none⟩) n c] w fun e w' => ∃ v', e = .returned v' ∧ w'.ownsRow w.heap.size el k v' n news ∧ v' ≠ .slice none 0 0 ∧ Below w.heap.size w w' := by
  cases hi : Tryz.prog.info? el with
  | none => rw [hi] at h; cases h
  | some i0 =>
    rw [hi] at h
    simp only [Option.map_some, Option.some.injEq, Prod.mk.injEq] at h
    obtain ⟨h2, h3, h4⟩ := h
    cases hz : i0.zero with
    | none => rw [hz] at h2; cases h2
    | some zv =>
      rw [hz] at h2
      simp only [Option.map_some, Option.some.injEq] at h2
      exact AnyE.slices_Clone L i0 zv k bytes hi hz h3 h4 h2 hk z b off n c news w hl hn hb hc h1
theorem lays155 : Go.Proofs.SlLaysE0.n41 Tryz.prog (renClone 155 34 62) := {
  mixed := by kernel_rfl
  f41 := ⟨Tryz.f155.name, by decide, Tryz.func155.trans (congrArg some (by kernel_rfl))⟩
  t4 := Tryz.underlying4
  a4 := Tryz.isAgg4
  z4 := Tryz.sizeOf4
  v4 := Tryz.zeroValue4
  t22 := Tryz.underlying34
  a22 := Tryz.isAgg34
  z22 := Tryz.sizeOf34
  v22 := Tryz.zeroValue34 }
theorem enters155 : Enters Tryz.prog 155 := ⟨Tryz.f155, fbody Tryz.f155, by kernel_rfl, rfl, rfl⟩
theorem lays93 : Go.Proofs.SlLaysE0.n41 Tryz.prog (renClone 93 24 64) := {
  mixed := by kernel_rfl
  f41 := ⟨Tryz.f93.name, by decide, Tryz.func93.trans (congrArg some (by kernel_rfl))⟩
  t4 := Tryz.underlying4
  a4 := Tryz.isAgg4
  z4 := Tryz.sizeOf4
  v4 := Tryz.zeroValue4
  t22 := Tryz.underlying24
  a22 := Tryz.isAgg24
  z22 := Tryz.sizeOf24
  v22 := Tryz.zeroValue24 }
theorem enters93 : Enters Tryz.prog 93 := ⟨Tryz.f93, fbody Tryz.f93, by kernel_rfl, rfl, rfl⟩
theorem lays96 : Go.Proofs.SlLaysE0.n41 Tryz.prog (renClone 96 25 121) := {
  mixed := by kernel_rfl
  f41 := ⟨Tryz.f96.name, by decide, Tryz.func96.trans (congrArg some (by kernel_rfl))⟩
  t4 := Tryz.underlying4
  a4 := Tryz.isAgg4
  z4 := Tryz.sizeOf4
  v4 := Tryz.zeroValue4
  t22 := Tryz.underlying25
  a22 := Tryz.isAgg25
  z22 := Tryz.sizeOf25
  v22 := Tryz.zeroValue25 }
theorem enters96 : Enters Tryz.prog 96 := ⟨Tryz.f96, fbody Tryz.f96, by kernel_rfl, rfl, rfl⟩
def sightsRowT (xs : Unit → List SightD) : Ob := .row .own 64 9 (.sy (fun _ => (xs ()).length) 0) fun e => encSight fun _ => (xs ()).getD e sightD
def notesRowT (xs : Unit → List NoteD) : Ob := .row .own 121 4 (.sy (fun _ => (xs ()).length) 0) fun e => encNote fun _ => (xs ()).getD e noteD
def spCloneBox : Spec := fun args M base => match args with
  | [.one c] => ⟨In fun _ => okBoxs M c ∧ 0 < (boxs M c).length ∧ (boxs M c).length * 32 ≤ 140737488355328, .one (.ref base), [boxRowT fun _ => boxs M c], [], (seen M c).reads⟩
  | _ => bad
theorem okCloneBox : SpecOk F0 Tryz.prog 155 spCloneBox := by
  have h : SpecOk F0 Tryz.prog 155 (spCloneC boxCod 32) := okCloneC boxCod 32 enters155 (clone_of 155 _ 62 4 32 lays155 (by kernel_rfl) Tryz.sizeOf62 (by decide))
  exact h.narrow (fun args M M' base hs h => by
    unfold spCloneBox at *
    split at hs
    · simp only [boxs, okBoxs] at h ⊢
      rw [seen_congr (M := M) (M' := M') h]
    · exact hs.elim) fun args M base hs => by
    unfold spCloneBox at hs ⊢
    split at hs
    · exact ⟨hs, rfl, rfl, rfl⟩
    · exact hs.elim
def spCloneSight : Spec := fun args M base => match args with
  | [.one c] => ⟨In fun _ => okSights M c ∧ 0 < (sights M c).length ∧ (sights M c).length * 80 ≤ 140737488355328, .one (.ref base), [sightsRowT fun _ => sights M c], [], (seen M c).reads⟩
  | _ => bad
theorem okCloneSight : SpecOk F0 Tryz.prog 93 spCloneSight := by
  have h : SpecOk F0 Tryz.prog 93 (spCloneC sightCod 80) := okCloneC sightCod 80 enters93 (clone_of 93 _ 64 9 80 lays93 (by kernel_rfl) Tryz.sizeOf64 (by decide))
  exact h.narrow (fun args M M' base hs h => by
    unfold spCloneSight at *
    split at hs
    · simp only [sights, okSights] at h ⊢
      rw [seen_congr (M := M) (M' := M') h]
    · exact hs.elim) fun args M base hs => by
    unfold spCloneSight at hs ⊢
    split at hs
    · exact ⟨hs, rfl, rfl, rfl⟩
    · exact hs.elim
def spCloneNote : Spec := fun args M base => match args with
  | [.one c] => ⟨In fun _ => okNotes M c ∧ 0 < (notes M c).length ∧ (notes M c).length * 32 ≤ 140737488355328, .one (.ref base), [notesRowT fun _ => notes M c], [], (seen M c).reads⟩
  | _ => bad
theorem okCloneNote : SpecOk F0 Tryz.prog 96 spCloneNote := by
  have h : SpecOk F0 Tryz.prog 96 (spCloneC noteCod 32) := okCloneC noteCod 32 enters96 (clone_of 96 _ 121 4 32 lays96 (by kernel_rfl) Tryz.sizeOf121 (by decide))
  exact h.narrow (fun args M M' base hs h => by
    unfold spCloneNote at *
    split at hs
    · simp only [notes, okNotes] at h ⊢
      rw [seen_congr (M := M) (M' := M') h]
    · exact hs.elim) fun args M base hs => by
    unfold spCloneNote at hs ⊢
    split at hs
    · exact ⟨hs, rfl, rfl, rfl⟩
    · exact hs.elim
end Go.Proofs.YthgllnnlngihoaaGreat.Sx
end
section
set_option linter.unusedVariables false
set_option linter.unusedSimpArgs false
set_option maxRecDepth 100000
namespace Go.Proofs.YthgllnnlngihoaaGreat.Sx
open Go.RowKit

section
variable (st pl sk : Int) (ss : List SightD) (ns : List NoteD)
def orJ (n j e : Nat) : Nat := if e < j then orK st pl sk ss ns (n + 1) e else orK st pl sk ss ns n e
def kindsE : Int := bif decide (checkE st pl sk ss ns = 0) then (bif someK st pl sk ss ns (3 ^ (ss.length - 1)) then 0 else 9) else checkE st pl sk ss ns
def kindsL : List Int := bif decide (checkE st pl sk ss ns = 0) then (bif someK st pl sk ss ns (3 ^ (ss.length - 1)) then (List.range (ss.length - 1)).map fun k => (orK st pl sk ss ns (3 ^ (ss.length - 1)) k : Int) else []) else []
end
noncomputable def kindsEn : En := enP [(23, spCheck)] (fun r => Nat.beq r 5) pts87
theorem kinds_vc {st pl sk : Int} {ss : List SightD} {ns : List NoteD} (hsz : ss.length ≤ 140737488355328) (hnz : ns.length ≤ 140737488355328) (B : Nat) :
    vc kindsEn ⟨fun _ => none, B, fun _ => False, Tryz.f28.ntmps, some 8⟩ (fbody Tryz.f28) (start [.agg [.i .i64 (.sy fun _ => st), .i .i64 (.sy fun _ => pl), .i .i64 (.sy fun _ => sk), .ref 0, .ref 1]] [sightRow .ro ss, noteRow .ro ns])
      fun x s => isRet x ∧ markP tab Tryz.f28.results.toList 8 (fun s => ∃ js, FinBy tab Tryz.f28.results.toList js s (.tup [.one (.ref 0), .one (.i .i64 (.sy fun _ => kindsE st pl sk ss ns))]) [intRowT 3 fun _ => kindsL st pl sk ss ns]) s := by
  cbv
  simp only [implies_true, and_true, true_and, IX.v_lit, IX.v_nat, IX.v_sy, BX.v_lit, BX.v_sy, NX.v_lit, NX.v_sy, addN, in_true, eq_self, Nat.succ_eq_add_one, intD_eq, encInt_le, encText_le, encSpan_le, encPair_le, encBox_le, encNote_le, encSight_le, cell_i_le, Nat.add_zero, Int.toNat_natCast, Nat.lt_irrefl, if_false, and_self, ncast, imp_self, in_self, in_self2, in_and, Int.cast_ofNat_Int, in_and2, noT, noF]
  simp only [in_true, eq_self, and_true, true_and, ints, texts, spans, pairs, boxs, notes, sights, seen, lget, reduceIte, Nat.reduceEqDiff, reduceCtorEq, Nat.succ_ne_self, Nat.zero_ne_one, Nat.one_ne_zero, int_row0, int_row, text_row, span_row, pair_row, box_row, note_row, sight_row]
  refine ⟨⟨life_at rfl rfl hsz hnz⟩, fun h => ?_, fun h => ?_⟩
  · have h : checkE st pl sk ss ns ≠ 0 := of_decide_eq_false h
    cbv
    refine ⟨[.nil], ?_⟩
    cbv
    simp only [implies_true, and_true, true_and, IX.v_lit, IX.v_nat, IX.v_sy, BX.v_lit, BX.v_sy, NX.v_lit, NX.v_sy, addN, in_true, eq_self, Nat.succ_eq_add_one, intD_eq, encInt_le, encText_le, encSpan_le, encPair_le, encBox_le, encNote_le, encSight_le, cell_i_le, Nat.add_zero, Int.toNat_natCast, Nat.lt_irrefl, if_false, and_self, ncast, imp_self, in_self, in_self2, in_and, Int.cast_ofNat_Int, in_and2, ltB_t, ltB_f, leB_t, leB_f, eqB_t, eqB_f, ltNB_t, ltNB_f, leNB_t, leNB_f, eqNB_t, eqNB_f, noT, noF, Bool.and_eq_true, Bool.or_eq_true, Bool.and_eq_false_iff, Bool.or_eq_false_iff]
    exact ⟨⟨by unfold kindsL; rw [decide_eq_false h]; rfl⟩, ⟨by unfold kindsE; rw [decide_eq_false h]; rfl⟩⟩
  · have h : checkE st pl sk ss ns = 0 := of_decide_eq_true h
    obtain ⟨hH, hL, hn, hn9, hns⟩ := check_ok h
    have hR := runOk_of_check h
    cbv
    simp only [implies_true, and_true, true_and, IX.v_lit, IX.v_nat, IX.v_sy, BX.v_lit, BX.v_sy, NX.v_lit, NX.v_sy, addN, in_true, eq_self, Nat.succ_eq_add_one, intD_eq, encInt_le, encText_le, encSpan_le, encPair_le, encBox_le, encNote_le, encSight_le, cell_i_le, Nat.add_zero, Int.toNat_natCast, Nat.lt_irrefl, if_false, and_self, ncast, imp_self, in_self, in_self2, in_and, Int.cast_ofNat_Int, in_and2, noT, noF]
    refine ⟨⟨by unfold fitsK; omega⟩, ⟨⟨by omega⟩, ⟨by omega, by omega⟩⟩, [0, 1, 2, 3, 4, 5, 8], fun π hπ1 hπ2 => ?_⟩
    unfold pt87 ptFn
    refine ⟨Nat.le_of_ble_eq_true rfl, ?_⟩
    cbv
    simp only [implies_true, and_true, true_and, IX.v_lit, IX.v_nat, IX.v_sy, BX.v_lit, BX.v_sy, NX.v_lit, NX.v_sy, addN, in_true, eq_self, Nat.succ_eq_add_one, intD_eq, encInt_le, encText_le, encSpan_le, encPair_le, encBox_le, encNote_le, encSight_le, cell_i_le, Nat.add_zero, Int.toNat_natCast, Nat.lt_irrefl, if_false, and_self, ncast, imp_self, in_self, in_self2, in_and, Int.cast_ofNat_Int, in_and2, noT, noF]
    refine ⟨fun i hi => by cases hi; rfl, ?_⟩
    cbv
    try simp only [implies_true, and_true, true_and, IX.v_lit, IX.v_nat, IX.v_sy, BX.v_lit, BX.v_sy, NX.v_lit, NX.v_sy, addN, in_true, eq_self, Nat.succ_eq_add_one, intD_eq, encInt_le, encText_le, encSpan_le, encPair_le, encBox_le, encNote_le, encSight_le, cell_i_le, Nat.add_zero, Int.toNat_natCast, Nat.lt_irrefl, if_false, and_self, ncast, imp_self, in_self, in_self2, in_and, Int.cast_ofNat_Int, in_and2, noT, noF]
    refine ⟨rangeFunc_tri (e := kindsEn) (enP_ok (l := [(23, spCheck)]) ⟨okCheck, trivial⟩ pts87_ok) rfl [0, 1, 2, 3, 4, 5, 6, 7] rfl trivial fun l r π hr1 hr2 hr3 hr4 hr5 hr6 hπ3 hπ4 hπ5 hσ => ?_⟩
    refine ⟨153, _, pt153 l (ptYield (enB [] l) l 9 r π _ 43 [22, 23] _ _), rfl, pt153_ok (ptYield_ok (enB_ok (l := []) trivial l) rfl hr1 hr2 (by rw [hr3]) hr4 hr5 hr6 hπ5 (fun σ hh => hσ σ hh) (by decide) ?_ ?_ fun _ => trivial), ?_⟩
    · kernel_rfl
    · kernel_rfl
    · unfold pt153 ptFn
      refine ⟨Nat.le_of_ble_eq_true rfl, ?_⟩
      have hp : ∀ i u, π i = some u → i ∈ [0, 1, 2, 3, 4, 5, 6, 7, 8, 9] := fun i u hu => by
        rcases hπ3 i u hu with h1 | ⟨v, h1⟩
        · have := inL_mem h1
          simp only [List.mem_cons, List.not_mem_nil, or_false] at this ⊢
          omega
        · cases h1
      clear hr4 hr5 hσ hπ3 hπ4 hπ5
      cbv
      simp only [implies_true, and_true, true_and, IX.v_lit, IX.v_nat, IX.v_sy, BX.v_lit, BX.v_sy, NX.v_lit, NX.v_sy, addN, in_true, eq_self, Nat.succ_eq_add_one, intD_eq, encInt_le, encText_le, encSpan_le, encPair_le, encBox_le, encNote_le, encSight_le, cell_i_le, Nat.add_zero, Int.toNat_natCast, Nat.lt_irrefl, if_false, and_self, ncast, imp_self, in_self, in_self2, in_and, Int.cast_ofNat_Int, in_and2, noT, noF]
      obtain ⟨C, hC⟩ : ∃ C, ss.length - 1 = C := ⟨_, rfl⟩
      obtain ⟨L, hLn⟩ : ∃ L, ss.length = L := ⟨_, rfl⟩
      refine ⟨⟨by rfl⟩, ⟨by unfold fitsK; omega⟩, ⟨⟨by omega⟩, ⟨by omega, by omega⟩⟩, {n : Nat // n < 3 ^ C}, fun i => ⟨[(0, .lit true, .one (.c (.func (.yield l) #[] #[]))), (1, .lit true, .one (.ref 6)), (3, .lit true, .one (.ref 10))], [(0, sightRow .ro ss), (1, noteRow .ro ns), (2, .box true 27 [.i .i64 (.sy fun _ => st), .i .i64 (.sy fun _ => pl), .i .i64 (.sy fun _ => sk), .ref 0, .ref 1]), (3, kindRow C (orK st pl sk ss ns i.1)), (4, .box true 28 [.ref 3]), (5, .box true 4 [.b (.sy fun _ => someK st pl sk ss ns i.1)]), (6, .box true 27 [.i .i64 (.sy fun _ => st), .i .i64 (.sy fun _ => pl), .i .i64 (.sy fun _ => sk), .ref 0, .ref 1]), (7, .clo (.func 153) [] [.ref 6]), (8, .obj (.deferred (some []))), (9, .obj (.loop r)), (10, intRowT 3 fun _ => crs C i.1)], 11⟩, fun i => 3 ^ C - i.1, ⟨0, pow3_pos _⟩, LeBy.le (pins := [0, 1, 2, 3, 4, 5, 6, 7, 8, 9]) hp (l := [(0, .old 0), (1, .old 1), (2, .old 2), (3, .old 3), (4, .old 4), (5, .old 5), (6, .old 6), (7, .old 7), (8, .old 8), (9, .old 9), (10, .old 10)]) ?_, fun i => ?_⟩
      · cbv
        simp only [implies_true, and_true, true_and, IX.v_lit, IX.v_nat, IX.v_sy, BX.v_lit, BX.v_sy, NX.v_lit, NX.v_sy, addN, in_true, eq_self, Nat.succ_eq_add_one, intD_eq, encInt_le, encText_le, encSpan_le, encPair_le, encBox_le, encNote_le, encSight_le, cell_i_le, Nat.add_zero, Int.toNat_natCast, Nat.lt_irrefl, if_false, and_self, ncast, imp_self, in_self, in_self2, in_and, Int.cast_ofNat_Int, in_and2, noT, noF]
        refine ⟨⟨⟨by omega⟩, ⟨fun e he => int1_le (x := .lit 0) rfl⟩⟩, ⟨⟨rfl⟩, ⟨by rw [crs_len]; omega⟩, ⟨fun e he => ?_⟩⟩⟩
        rw [show (fun x : PUnit => (crs C 0).getD e 0) = fun _ => 0 from funext fun _ => by rw [crs_get (by omega), dig_zero]; rfl]
        exact int1_le (x := .lit 0) (y := .sy fun _ => 0) rfl
      · obtain ⟨n, hnC⟩ := i
        cbv
        simp only [implies_true, and_true, true_and, IX.v_lit, IX.v_nat, IX.v_sy, BX.v_lit, BX.v_sy, NX.v_lit, NX.v_sy, addN, in_true, eq_self, Nat.succ_eq_add_one, intD_eq, encInt_le, encText_le, encSpan_le, encPair_le, encBox_le, encNote_le, encSight_le, cell_i_le, Nat.add_zero, Int.toNat_natCast, Nat.lt_irrefl, if_false, and_self, ncast, imp_self, in_self, in_self2, in_and, Int.cast_ofNat_Int, in_and2, noT, noF]
        refine ⟨⟨tell_side rfl rfl rfl (by omega) (by rw [← hC]; exact run_thru hR n)⟩, ?_⟩
        simp only [in_true, eq_self, and_true, true_and, ints, texts, spans, pairs, boxs, notes, sights, seen, lget, reduceIte, Nat.reduceEqDiff, reduceCtorEq, Nat.succ_ne_self, Nat.zero_ne_one, Nat.one_ne_zero, int_row0, int_row, text_row, span_row, pair_row, box_row, note_row, sight_row]
        refine ⟨fun hok => ?_, fun hno => ?_⟩
        · have hok : tellOk st pl sk ss ns (crs C n) = true := hok
          have hokN : okN st pl sk ss ns n = true := by unfold okN; rw [hC]; exact hok
          refine ⟨?_, [0, 1, 2, 3, 4, 5, 6, 7, 8, 9, 10], fun π2 hπa hπb => ?_⟩
          · cbv
            exact ⟨⟨hok⟩, ⟨hok⟩, ⟨hok⟩, trivial⟩
          · unfold ptYield
            refine ⟨hπb, rfl, rfl, ?_⟩
            have hp2 : ∀ i u, π2 i = some u → i ∈ [0, 1, 2, 3, 4, 5, 6, 7, 8, 9, 10] := fun i u hu => by
              rcases hπa i u hu with h1 | ⟨v, h1⟩
              · exact inL_mem h1
              · have := hp i v h1
                simp only [List.mem_cons, List.not_mem_nil, or_false] at this ⊢
                omega
            have hcl := crs_len C n
            cbv
            refine ⟨{j : Nat // j ≤ C}, fun j => ⟨[(5, .lit true, .one (.ref 4)), (6, .lit true, .one (.ref 5)), (24, .lit true, .one (.ref 10)), (25, .lit true, cint .i64 (.nat (fun _ => C) 0)), (26, .lit true, cint .i64 (.nat (fun _ => j.1) 0))], [(0, sightRow .ro ss), (1, noteRow .ro ns), (2, .box true 27 [.i .i64 (.sy fun _ => st), .i .i64 (.sy fun _ => pl), .i .i64 (.sy fun _ => sk), .ref 0, .ref 1]), (3, kindRow C (orJ st pl sk ss ns n j.1)), (4, .box true 28 [.ref 3]), (5, .box true 4 [.b (.lit true)]), (6, .box true 27 [.i .i64 (.sy fun _ => st), .i .i64 (.sy fun _ => pl), .i .i64 (.sy fun _ => sk), .ref 0, .ref 1]), (7, .clo (.func 153) [] [.ref 6]), (8, .obj (.deferred (some []))), (9, .obj (.loop { r with state := .busy })), (10, intRowT 3 fun _ => crs C n)], 11⟩, fun j => C - j.1, ⟨0, Nat.zero_le _⟩, LeBy.le (pins := [0, 1, 2, 3, 4, 5, 6, 7, 8, 9, 10]) hp2 (l := [(0, .old 0), (1, .old 1), (2, .old 2), (3, .old 3), (4, .old 4), (5, .old 5), (6, .old 6), (7, .old 7), (8, .old 8), (9, .old 9), (10, .old 10)]) ?_, fun j => ?_⟩
            · cbv
              simp only [implies_true, and_true, true_and, IX.v_lit, IX.v_nat, IX.v_sy, BX.v_lit, BX.v_sy, NX.v_lit, NX.v_sy, addN, in_true, eq_self, Nat.succ_eq_add_one, intD_eq, encInt_le, encText_le, encSpan_le, encPair_le, encBox_le, encNote_le, encSight_le, cell_i_le, Nat.add_zero, Int.toNat_natCast, Nat.lt_irrefl, if_false, and_self, ncast, imp_self, in_self, in_self2, in_and, Int.cast_ofNat_Int, in_and2, noT, noF]
              exact ⟨⟨fun e he => int1_le (by unfold orJ; rw [if_neg (Nat.not_lt_zero e)])⟩, ⟨(crs_len C n).symm⟩⟩
            · obtain ⟨j, hj⟩ := j
              cbv
              simp only [implies_true, and_true, true_and, IX.v_lit, IX.v_nat, IX.v_sy, BX.v_lit, BX.v_sy, NX.v_lit, NX.v_sy, addN, in_true, eq_self, Nat.succ_eq_add_one, intD_eq, encInt_le, encText_le, encSpan_le, encPair_le, encBox_le, encNote_le, encSight_le, cell_i_le, Nat.add_zero, Int.toNat_natCast, Nat.lt_irrefl, if_false, and_self, ncast, imp_self, in_self, in_self2, in_and, Int.cast_ofNat_Int, in_and2, ltB_t, ltB_f, leB_t, leB_f, eqB_t, eqB_f, ltNB_t, ltNB_f, leNB_t, leNB_f, eqNB_t, eqNB_f, noT, noF, Bool.and_eq_true, Bool.or_eq_true, Bool.and_eq_false_iff, Bool.or_eq_false_iff]
              refine ⟨fun hlt => ?_, fun hlt => ?_⟩
              · have hg := crs_get (n := n) hlt
                have hd3 := dig_lt n j
                have ho1 : orJ st pl sk ss ns n j j = orK st pl sk ss ns n j := by unfold orJ; rw [if_neg (Nat.lt_irrefl j)]
                have ho2 := orK_le st pl sk ss ns n j
                have ho3 : orK st pl sk ss ns (n + 1) j = orK st pl sk ss ns n j ||| 2 ^ dig n j := by rw [orK, hokN]; rfl
                have hpw : (2 : Nat) ^ dig n j ≤ 4 := by
                  have : dig n j = 0 ∨ dig n j = 1 ∨ dig n j = 2 := by omega
                  rcases this with e | e | e <;> rw [e] <;> decide
                have hd4 : 0 ≤ (crs C n).getD j 0 ∧ (crs C n).getD j 0 ≤ 2 := by rw [hg]; omega
                have hpz : (2 : Int) ^ ((crs C n).getD j 0).toNat = ((2 ^ dig n j : Nat) : Int) := by rw [hg, Int.toNat_natCast]; simp
                cbv
                simp only [implies_true, and_true, true_and, IX.v_lit, IX.v_nat, IX.v_sy, BX.v_lit, BX.v_sy, NX.v_lit, NX.v_sy, addN, in_true, eq_self, Nat.succ_eq_add_one, intD_eq, encInt_le, encText_le, encSpan_le, encPair_le, encBox_le, encNote_le, encSight_le, cell_i_le, Nat.add_zero, Int.toNat_natCast, Nat.lt_irrefl, if_false, and_self, ncast, imp_self, in_self, in_self2, in_and, Int.cast_ofNat_Int, in_and2, ltB_t, ltB_f, leB_t, leB_f, eqB_t, eqB_f, ltNB_t, ltNB_f, leNB_t, leNB_f, eqNB_t, eqNB_f, noT, noF, Bool.and_eq_true, Bool.or_eq_true, Bool.and_eq_false_iff, Bool.or_eq_false_iff]
                refine ⟨⟨by omega⟩, ⟨by omega⟩, ⟨by omega⟩, ⟨by omega⟩, ⟨hd4⟩, ⟨by rw [ho1]; omega, by rw [ho1]; omega, by rw [hpz]; exact Int.natCast_nonneg _, by rw [hpz]; exact Int.ofNat_le.2 (Nat.le_trans hpw (by decide))⟩, ⟨by omega⟩, ⟨by omega⟩, ⟨by kernel_rfl⟩, ⟨nat_fits hlt (by omega)⟩, ⟨j + 1, by omega⟩, LeBy.le (pins := [0, 1, 2, 3, 4, 5, 6, 7, 8, 9, 10]) hp2 (l := [(0, .old 0), (1, .old 1), (2, .old 2), (3, .old 3), (4, .old 4), (5, .old 5), (6, .old 6), (7, .old 7), (8, .old 8), (9, .old 9), (10, .old 10)]) ?_, by show C - (j + 1) < C - j; omega⟩
                cbv
                simp only [implies_true, and_true, true_and, IX.v_lit, IX.v_nat, IX.v_sy, BX.v_lit, BX.v_sy, NX.v_lit, NX.v_sy, addN, in_true, eq_self, Nat.succ_eq_add_one, intD_eq, encInt_le, encText_le, encSpan_le, encPair_le, encBox_le, encNote_le, encSight_le, cell_i_le, Nat.add_zero, Int.toNat_natCast, Nat.lt_irrefl, if_false, and_self, ncast, imp_self, in_self, in_self2, in_and, Int.cast_ofNat_Int, in_and2, ltB_t, ltB_f, leB_t, leB_f, eqB_t, eqB_f, ltNB_t, ltNB_f, leNB_t, leNB_f, eqNB_t, eqNB_f, noT, noF, Bool.and_eq_true, Bool.or_eq_true, Bool.and_eq_false_iff, Bool.or_eq_false_iff]
                refine ⟨fun e he => put1_le (fun h1 => ?_) fun h1 => ?_⟩
                · subst h1
                  show ((orJ st pl sk ss ns n (e + 1) e : Nat) : Int) = ((orJ st pl sk ss ns n e e ||| ((2 : Int) ^ ((crs C n).getD e 0).toNat).toNat : Nat) : Int)
                  rw [hpz, Int.toNat_natCast, ho1, ← ho3]
                  unfold orJ
                  rw [if_pos (Nat.lt_succ_self e)]
                · show ((orJ st pl sk ss ns n (j + 1) e : Nat) : Int) = ((orJ st pl sk ss ns n j e : Nat) : Int)
                  unfold orJ
                  by_cases h2 : e < j
                  · rw [if_pos h2, if_pos (by omega)]
                  · rw [if_neg h2, if_neg (by omega)]
              · obtain rfl : C = j := by omega
                cbv
                refine ⟨fun i hi => hi.elim, fun _ => trivial, ⟨fun _ => hok, fun _ => rfl⟩, ?_⟩
                refine ⟨{k : Nat // k ≤ C ∧ ∀ j, j < k → dig n j = 2}, fun k => ⟨[(0, .lit true, .one (.c (.func (.yield l) #[] #[]))), (1, .lit true, .one (.ref 6)), (3, .lit true, .one (.ref 10)), (26, .lit true, .one (.ref 10)), (27, .lit true, cint .i64 (.nat (fun _ => C) 0)), (28, .lit true, cint .i64 (.nat (fun _ => k.1) 0))], [(0, sightRow .ro ss), (1, noteRow .ro ns), (2, .box true 27 [.i .i64 (.sy fun _ => st), .i .i64 (.sy fun _ => pl), .i .i64 (.sy fun _ => sk), .ref 0, .ref 1]), (3, kindRow C (orK st pl sk ss ns (n + 1))), (4, .box true 28 [.ref 3]), (5, .box true 4 [.b (.sy fun _ => someK st pl sk ss ns (n + 1))]), (6, .box true 27 [.i .i64 (.sy fun _ => st), .i .i64 (.sy fun _ => pl), .i .i64 (.sy fun _ => sk), .ref 0, .ref 1]), (7, .clo (.func 153) [] [.ref 6]), (8, .obj (.deferred (some []))), (9, .obj (.loop r)), (10, kindRow C (crsK n k.1))], 11⟩, fun k => C - k.1, ⟨0, Nat.zero_le _, fun j hj => absurd hj (Nat.not_lt_zero j)⟩, LeBy.le (pins := [0, 1, 2, 3, 4, 5, 6, 7, 8, 9]) hp (l := [(0, .old 0), (1, .old 1), (2, .old 2), (3, .old 3), (4, .old 4), (5, .old 5), (6, .old 6), (7, .old 7), (8, .old 8), (9, .old 9), (10, .old 10)]) ?_, fun k => ?_⟩
                · cbv
                  simp only [implies_true, and_true, true_and, IX.v_lit, IX.v_nat, IX.v_sy, BX.v_lit, BX.v_sy, NX.v_lit, NX.v_sy, addN, in_true, eq_self, Nat.succ_eq_add_one, intD_eq, encInt_le, encText_le, encSpan_le, encPair_le, encBox_le, encNote_le, encSight_le, cell_i_le, Nat.add_zero, Int.toNat_natCast, Nat.lt_irrefl, if_false, and_self, ncast, imp_self, in_self, in_self2, in_and, Int.cast_ofNat_Int, in_and2, noT, noF]
                  refine ⟨⟨⟨fun e he => int1_le (by unfold orJ; rw [if_pos he])⟩, ⟨by rw [someK, hokN]; rfl⟩, ⟨(crs_len C n).symm⟩, ⟨fun e he => ?_⟩⟩, ⟨(crs_len C n).symm⟩⟩
                  rw [show (fun x : PUnit => (crs C n).getD e 0) = fun _ => (dig n e : Int) from funext fun _ => crs_get (by rw [crs_len] at he; exact he)]
                  exact int1_le (x := .sy fun _ => (dig n e : Int)) (by unfold crsK; rw [if_neg (Nat.not_lt_zero e)]; rfl)
                · obtain ⟨k, hk, hd⟩ := k
                  cbv
                  simp only [implies_true, and_true, true_and, IX.v_lit, IX.v_nat, IX.v_sy, BX.v_lit, BX.v_sy, NX.v_lit, NX.v_sy, addN, in_true, eq_self, Nat.succ_eq_add_one, intD_eq, encInt_le, encText_le, encSpan_le, encPair_le, encBox_le, encNote_le, encSight_le, cell_i_le, Nat.add_zero, Int.toNat_natCast, Nat.lt_irrefl, if_false, and_self, ncast, imp_self, in_self, in_self2, in_and, Int.cast_ofNat_Int, in_and2, ltB_t, ltB_f, leB_t, leB_f, eqB_t, eqB_f, ltNB_t, ltNB_f, leNB_t, leNB_f, eqNB_t, eqNB_f, noT, noF, Bool.and_eq_true, Bool.or_eq_true, Bool.and_eq_false_iff, Bool.or_eq_false_iff]
                  refine ⟨fun hlt => ?_, fun hlt => ?_⟩
                  · cbv
                    simp only [implies_true, and_true, true_and, IX.v_lit, IX.v_nat, IX.v_sy, BX.v_lit, BX.v_sy, NX.v_lit, NX.v_sy, addN, in_true, eq_self, Nat.succ_eq_add_one, intD_eq, encInt_le, encText_le, encSpan_le, encPair_le, encBox_le, encNote_le, encSight_le, cell_i_le, Nat.add_zero, Int.toNat_natCast, Nat.lt_irrefl, if_false, and_self, ncast, imp_self, in_self, in_self2, in_and, Int.cast_ofNat_Int, in_and2, ltB_t, ltB_f, leB_t, leB_f, eqB_t, eqB_f, ltNB_t, ltNB_f, leNB_t, leNB_f, eqNB_t, eqNB_f, noT, noF, Bool.and_eq_true, Bool.or_eq_true, Bool.and_eq_false_iff, Bool.or_eq_false_iff]
                    have hck : crsK n k k = dig n k := by unfold crsK; rw [if_neg (Nat.lt_irrefl k)]
                    refine ⟨⟨by omega⟩, ⟨by omega⟩, fun h2 => ?_, fun h2 => ?_⟩
                    · have h2 : dig n k < 2 := by (first | omega | (simp only [ncast] at *; omega))
                      cbv
                      simp only [implies_true, and_true, true_and, IX.v_lit, IX.v_nat, IX.v_sy, BX.v_lit, BX.v_sy, NX.v_lit, NX.v_sy, addN, in_true, eq_self, Nat.succ_eq_add_one, intD_eq, encInt_le, encText_le, encSpan_le, encPair_le, encBox_le, encNote_le, encSight_le, cell_i_le, Nat.add_zero, Int.toNat_natCast, Nat.lt_irrefl, if_false, and_self, ncast, imp_self, in_self, in_self2, in_and, Int.cast_ofNat_Int, in_and2, ltB_t, ltB_f, leB_t, leB_f, eqB_t, eqB_f, ltNB_t, ltNB_f, leNB_t, leNB_f, eqNB_t, eqNB_f, noT, noF, Bool.and_eq_true, Bool.or_eq_true, Bool.and_eq_false_iff, Bool.or_eq_false_iff]
                      refine ⟨⟨by omega⟩, ⟨by omega⟩, ⟨by unfold fitsK; (first | omega | (simp only [ncast] at *; omega))⟩, ⟨by omega⟩, ⟨by omega⟩, ⟨n + 1, dig_more hlt h2 hnC⟩, LeBy.le (pins := [0, 1, 2, 3, 4, 5, 6, 7, 8, 9]) hp (l := [(0, .old 0), (1, .old 1), (2, .old 2), (3, .old 3), (4, .old 4), (5, .old 5), (6, .old 6), (7, .old 7), (8, .old 8), (9, .old 9), (10, .old 10)]) ?_, by show 3 ^ C - (n + 1) < 3 ^ C - n; omega⟩
                      cbv
                      simp only [implies_true, and_true, true_and, IX.v_lit, IX.v_nat, IX.v_sy, BX.v_lit, BX.v_sy, NX.v_lit, NX.v_sy, addN, in_true, eq_self, Nat.succ_eq_add_one, intD_eq, encInt_le, encText_le, encSpan_le, encPair_le, encBox_le, encNote_le, encSight_le, cell_i_le, Nat.add_zero, Int.toNat_natCast, Nat.lt_irrefl, if_false, and_self, ncast, imp_self, in_self, in_self2, in_and, Int.cast_ofNat_Int, in_and2, noT, noF]
                      refine ⟨⟨crs_len C (n + 1)⟩, ⟨fun e he => ?_⟩⟩
                      rw [show (fun x : PUnit => (crs C (n + 1)).getD e 0) = fun _ => (dig (n + 1) e : Int) from funext fun _ => crs_get he]
                      refine put1_le (z := .sy fun _ => (dig (n + 1) e : Int)) (fun h3 => ?_) fun h3 => ?_
                      · subst h3
                        show ((dig (n + 1) e : Nat) : Int) = ((crsK n e e + 1 : Nat) : Int)
                        rw [hck, dig_next hd h2, if_neg (Nat.lt_irrefl e), if_pos rfl]
                      · show ((dig (n + 1) e : Nat) : Int) = ((crsK n k e : Nat) : Int)
                        rw [dig_next hd h2, if_neg h3]
                        rfl
                    · have h2 : dig n k = 2 := by have := dig_lt n k; (first | omega | (simp only [ncast] at *; omega))
                      cbv
                      simp only [implies_true, and_true, true_and, IX.v_lit, IX.v_nat, IX.v_sy, BX.v_lit, BX.v_sy, NX.v_lit, NX.v_sy, addN, in_true, eq_self, Nat.succ_eq_add_one, intD_eq, encInt_le, encText_le, encSpan_le, encPair_le, encBox_le, encNote_le, encSight_le, cell_i_le, Nat.add_zero, Int.toNat_natCast, Nat.lt_irrefl, if_false, and_self, ncast, imp_self, in_self, in_self2, in_and, Int.cast_ofNat_Int, in_and2, ltB_t, ltB_f, leB_t, leB_f, eqB_t, eqB_f, ltNB_t, ltNB_f, leNB_t, leNB_f, eqNB_t, eqNB_f, noT, noF, Bool.and_eq_true, Bool.or_eq_true, Bool.and_eq_false_iff, Bool.or_eq_false_iff]
                      refine ⟨⟨by omega⟩, ⟨by omega⟩, ⟨nat_fits hlt (by omega)⟩, ⟨k + 1, by omega, fun j hj => by rcases Nat.lt_succ_iff_lt_or_eq.1 hj with h3 | h3; exact hd j h3; rw [h3]; exact h2⟩, LeBy.le (pins := [0, 1, 2, 3, 4, 5, 6, 7, 8, 9]) hp (l := [(0, .old 0), (1, .old 1), (2, .old 2), (3, .old 3), (4, .old 4), (5, .old 5), (6, .old 6), (7, .old 7), (8, .old 8), (9, .old 9), (10, .old 10)]) ?_, by show C - (k + 1) < C - k; omega⟩
                      cbv
                      simp only [implies_true, and_true, true_and, IX.v_lit, IX.v_nat, IX.v_sy, BX.v_lit, BX.v_sy, NX.v_lit, NX.v_sy, addN, in_true, eq_self, Nat.succ_eq_add_one, intD_eq, encInt_le, encText_le, encSpan_le, encPair_le, encBox_le, encNote_le, encSight_le, cell_i_le, Nat.add_zero, Int.toNat_natCast, Nat.lt_irrefl, if_false, and_self, ncast, imp_self, in_self, in_self2, in_and, Int.cast_ofNat_Int, in_and2, noT, noF]
                      refine ⟨fun e he => put1_le (fun h3 => ?_) fun h3 => ?_⟩
                      · show ((crsK n (k + 1) e : Nat) : Int) = 0
                        unfold crsK
                        rw [if_pos (by omega)]
                        rfl
                      · show ((crsK n (k + 1) e : Nat) : Int) = ((crsK n k e : Nat) : Int)
                        unfold crsK
                        by_cases h4 : e < k
                        · rw [if_pos h4, if_pos (by omega)]
                        · rw [if_neg h4, if_neg (by omega)]
                  · obtain rfl : C = k := by omega
                    have hN := dig_last hd hnC
                    cbv
                    refine ⟨fun hs => ?_, fun hs => ?_⟩
                    · have hs : someK st pl sk ss ns (n + 1) = false := by revert hs; cases someK st pl sk ss ns (n + 1) <;> simp
                      have e1 : (kindsL st pl sk ss ns).length = 0 := by unfold kindsL; rw [decide_eq_true h, hC, ← hN, hs]; rfl
                      have e2 : kindsE st pl sk ss ns = 9 := by unfold kindsE; rw [decide_eq_true h, hC, ← hN, hs]; rfl
                      cbv
                      refine ⟨⟨[.nil], ?_⟩, ⟨[.nil], ?_⟩⟩
                      · cbv
                        simp only [implies_true, and_true, true_and, IX.v_lit, IX.v_nat, IX.v_sy, BX.v_lit, BX.v_sy, NX.v_lit, NX.v_sy, addN, in_true, eq_self, Nat.succ_eq_add_one, intD_eq, encInt_le, encText_le, encSpan_le, encPair_le, encBox_le, encNote_le, encSight_le, cell_i_le, Nat.add_zero, Int.toNat_natCast, Nat.lt_irrefl, if_false, and_self, ncast, imp_self, in_self, in_self2, in_and, Int.cast_ofNat_Int, in_and2, ltB_t, ltB_f, leB_t, leB_f, eqB_t, eqB_f, ltNB_t, ltNB_f, leNB_t, leNB_f, eqNB_t, eqNB_f, noT, noF, Bool.and_eq_true, Bool.or_eq_true, Bool.and_eq_false_iff, Bool.or_eq_false_iff]
                        exact ⟨⟨e1⟩, ⟨e2⟩⟩
                      · cbv
                        simp only [implies_true, and_true, true_and, IX.v_lit, IX.v_nat, IX.v_sy, BX.v_lit, BX.v_sy, NX.v_lit, NX.v_sy, addN, in_true, eq_self, Nat.succ_eq_add_one, intD_eq, encInt_le, encText_le, encSpan_le, encPair_le, encBox_le, encNote_le, encSight_le, cell_i_le, Nat.add_zero, Int.toNat_natCast, Nat.lt_irrefl, if_false, and_self, ncast, imp_self, in_self, in_self2, in_and, Int.cast_ofNat_Int, in_and2, ltB_t, ltB_f, leB_t, leB_f, eqB_t, eqB_f, ltNB_t, ltNB_f, leNB_t, leNB_f, eqNB_t, eqNB_f, noT, noF, Bool.and_eq_true, Bool.or_eq_true, Bool.and_eq_false_iff, Bool.or_eq_false_iff]
                        exact ⟨⟨e1⟩, ⟨e2⟩⟩
                    · have hs : someK st pl sk ss ns (n + 1) = true := by revert hs; cases someK st pl sk ss ns (n + 1) <;> simp
                      have e1 : kindsL st pl sk ss ns = (List.range C).map fun k => (orK st pl sk ss ns (n + 1) k : Int) := by unfold kindsL; rw [decide_eq_true h, hC, ← hN, hs]; rfl
                      have e2 : kindsE st pl sk ss ns = 0 := by unfold kindsE; rw [decide_eq_true h, hC, ← hN, hs]; rfl
                      have e3 : (kindsL st pl sk ss ns).length = C := by rw [e1]; simp
                      have e4 : ∀ e, e < C → (kindsL st pl sk ss ns).getD e 0 = (orK st pl sk ss ns (n + 1) e : Int) := fun e he => by rw [e1, List.getD_eq_getElem?_getD]; simp [he]
                      cbv
                      refine ⟨⟨[.old 3], ?_⟩, ⟨[.old 3], ?_⟩⟩
                      · cbv
                        simp only [implies_true, and_true, true_and, IX.v_lit, IX.v_nat, IX.v_sy, BX.v_lit, BX.v_sy, NX.v_lit, NX.v_sy, addN, in_true, eq_self, Nat.succ_eq_add_one, intD_eq, encInt_le, encText_le, encSpan_le, encPair_le, encBox_le, encNote_le, encSight_le, cell_i_le, Nat.add_zero, Int.toNat_natCast, Nat.lt_irrefl, if_false, and_self, ncast, imp_self, in_self, in_self2, in_and, Int.cast_ofNat_Int, in_and2, ltB_t, ltB_f, leB_t, leB_f, eqB_t, eqB_f, ltNB_t, ltNB_f, leNB_t, leNB_f, eqNB_t, eqNB_f, noT, noF, Bool.and_eq_true, Bool.or_eq_true, Bool.and_eq_false_iff, Bool.or_eq_false_iff]
                        exact ⟨⟨⟨e3⟩, ⟨fun e he => int1_le (x := .nat (fun _ => orK st pl sk ss ns (n + 1) e) 0) (y := .sy fun _ => (kindsL st pl sk ss ns).getD e 0) (e4 e he)⟩⟩, ⟨e2⟩⟩
                      · cbv
                        simp only [implies_true, and_true, true_and, IX.v_lit, IX.v_nat, IX.v_sy, BX.v_lit, BX.v_sy, NX.v_lit, NX.v_sy, addN, in_true, eq_self, Nat.succ_eq_add_one, intD_eq, encInt_le, encText_le, encSpan_le, encPair_le, encBox_le, encNote_le, encSight_le, cell_i_le, Nat.add_zero, Int.toNat_natCast, Nat.lt_irrefl, if_false, and_self, ncast, imp_self, in_self, in_self2, in_and, Int.cast_ofNat_Int, in_and2, ltB_t, ltB_f, leB_t, leB_f, eqB_t, eqB_f, ltNB_t, ltNB_f, leNB_t, leNB_f, eqNB_t, eqNB_f, noT, noF, Bool.and_eq_true, Bool.or_eq_true, Bool.and_eq_false_iff, Bool.or_eq_false_iff]
                        exact ⟨⟨⟨e3⟩, ⟨fun e he => int1_le (x := .nat (fun _ => orK st pl sk ss ns (n + 1) e) 0) (y := .sy fun _ => (kindsL st pl sk ss ns).getD e 0) (e4 e he)⟩⟩, ⟨e2⟩⟩
        · have hno : tellOk st pl sk ss ns (crs C n) = false := hno
          have hnoN : okN st pl sk ss ns n = false := by unfold okN; rw [hC]; exact hno
          have ho3 : ∀ e, orK st pl sk ss ns (n + 1) e = orK st pl sk ss ns n e := fun e => by rw [orK, hnoN]; rfl
          have ho4 : someK st pl sk ss ns (n + 1) = someK st pl sk ss ns n := by rw [someK, hnoN]; rfl
          cbv
          refine ⟨fun hh => absurd (hno.symm.trans hh) (by decide), ⟨fun hh => hh, fun _ => rfl⟩, fun hh => absurd (hno.symm.trans hh) (by decide), fun _ => ?_⟩
          cbv
          refine ⟨{k : Nat // k ≤ C ∧ ∀ j, j < k → dig n j = 2}, fun k => ⟨[(0, .lit true, .one (.c (.func (.yield l) #[] #[]))), (1, .lit true, .one (.ref 6)), (3, .lit true, .one (.ref 10)), (26, .lit true, .one (.ref 10)), (27, .lit true, cint .i64 (.nat (fun _ => C) 0)), (28, .lit true, cint .i64 (.nat (fun _ => k.1) 0))], [(0, sightRow .ro ss), (1, noteRow .ro ns), (2, .box true 27 [.i .i64 (.sy fun _ => st), .i .i64 (.sy fun _ => pl), .i .i64 (.sy fun _ => sk), .ref 0, .ref 1]), (3, kindRow C (orK st pl sk ss ns (n + 1))), (4, .box true 28 [.ref 3]), (5, .box true 4 [.b (.sy fun _ => someK st pl sk ss ns (n + 1))]), (6, .box true 27 [.i .i64 (.sy fun _ => st), .i .i64 (.sy fun _ => pl), .i .i64 (.sy fun _ => sk), .ref 0, .ref 1]), (7, .clo (.func 153) [] [.ref 6]), (8, .obj (.deferred (some []))), (9, .obj (.loop r)), (10, kindRow C (crsK n k.1))], 11⟩, fun k => C - k.1, ⟨0, Nat.zero_le _, fun j hj => absurd hj (Nat.not_lt_zero j)⟩, LeBy.le (pins := [0, 1, 2, 3, 4, 5, 6, 7, 8, 9]) hp (l := [(0, .old 0), (1, .old 1), (2, .old 2), (3, .old 3), (4, .old 4), (5, .old 5), (6, .old 6), (7, .old 7), (8, .old 8), (9, .old 9), (10, .old 10)]) ?_, fun k => ?_⟩
          · cbv
            simp only [implies_true, and_true, true_and, IX.v_lit, IX.v_nat, IX.v_sy, BX.v_lit, BX.v_sy, NX.v_lit, NX.v_sy, addN, in_true, eq_self, Nat.succ_eq_add_one, intD_eq, encInt_le, encText_le, encSpan_le, encPair_le, encBox_le, encNote_le, encSight_le, cell_i_le, Nat.add_zero, Int.toNat_natCast, Nat.lt_irrefl, if_false, and_self, ncast, imp_self, in_self, in_self2, in_and, Int.cast_ofNat_Int, in_and2, noT, noF]
            refine ⟨⟨⟨fun e he => int1_le (by show ((orK st pl sk ss ns (n + 1) e : Nat) : Int) = ((orK st pl sk ss ns n e : Nat) : Int); rw [ho3])⟩, ⟨ho4⟩, ⟨(crs_len C n).symm⟩, ⟨fun e he => ?_⟩⟩, ⟨(crs_len C n).symm⟩⟩
            rw [show (fun x : PUnit => (crs C n).getD e 0) = fun _ => (dig n e : Int) from funext fun _ => crs_get (by rw [crs_len] at he; exact he)]
            exact int1_le (x := .sy fun _ => (dig n e : Int)) (by unfold crsK; rw [if_neg (Nat.not_lt_zero e)]; rfl)
          · obtain ⟨k, hk, hd⟩ := k
            cbv
            simp only [implies_true, and_true, true_and, IX.v_lit, IX.v_nat, IX.v_sy, BX.v_lit, BX.v_sy, NX.v_lit, NX.v_sy, addN, in_true, eq_self, Nat.succ_eq_add_one, intD_eq, encInt_le, encText_le, encSpan_le, encPair_le, encBox_le, encNote_le, encSight_le, cell_i_le, Nat.add_zero, Int.toNat_natCast, Nat.lt_irrefl, if_false, and_self, ncast, imp_self, in_self, in_self2, in_and, Int.cast_ofNat_Int, in_and2, ltB_t, ltB_f, leB_t, leB_f, eqB_t, eqB_f, ltNB_t, ltNB_f, leNB_t, leNB_f, eqNB_t, eqNB_f, noT, noF, Bool.and_eq_true, Bool.or_eq_true, Bool.and_eq_false_iff, Bool.or_eq_false_iff]
            refine ⟨fun hlt => ?_, fun hlt => ?_⟩
            · cbv
              simp only [implies_true, and_true, true_and, IX.v_lit, IX.v_nat, IX.v_sy, BX.v_lit, BX.v_sy, NX.v_lit, NX.v_sy, addN, in_true, eq_self, Nat.succ_eq_add_one, intD_eq, encInt_le, encText_le, encSpan_le, encPair_le, encBox_le, encNote_le, encSight_le, cell_i_le, Nat.add_zero, Int.toNat_natCast, Nat.lt_irrefl, if_false, and_self, ncast, imp_self, in_self, in_self2, in_and, Int.cast_ofNat_Int, in_and2, ltB_t, ltB_f, leB_t, leB_f, eqB_t, eqB_f, ltNB_t, ltNB_f, leNB_t, leNB_f, eqNB_t, eqNB_f, noT, noF, Bool.and_eq_true, Bool.or_eq_true, Bool.and_eq_false_iff, Bool.or_eq_false_iff]
              have hck : crsK n k k = dig n k := by unfold crsK; rw [if_neg (Nat.lt_irrefl k)]
              refine ⟨⟨by omega⟩, ⟨by omega⟩, fun h2 => ?_, fun h2 => ?_⟩
              · have h2 : dig n k < 2 := by (first | omega | (simp only [ncast] at *; omega))
                cbv
                simp only [implies_true, and_true, true_and, IX.v_lit, IX.v_nat, IX.v_sy, BX.v_lit, BX.v_sy, NX.v_lit, NX.v_sy, addN, in_true, eq_self, Nat.succ_eq_add_one, intD_eq, encInt_le, encText_le, encSpan_le, encPair_le, encBox_le, encNote_le, encSight_le, cell_i_le, Nat.add_zero, Int.toNat_natCast, Nat.lt_irrefl, if_false, and_self, ncast, imp_self, in_self, in_self2, in_and, Int.cast_ofNat_Int, in_and2, ltB_t, ltB_f, leB_t, leB_f, eqB_t, eqB_f, ltNB_t, ltNB_f, leNB_t, leNB_f, eqNB_t, eqNB_f, noT, noF, Bool.and_eq_true, Bool.or_eq_true, Bool.and_eq_false_iff, Bool.or_eq_false_iff]
                refine ⟨⟨by omega⟩, ⟨by omega⟩, ⟨by unfold fitsK; (first | omega | (simp only [ncast] at *; omega))⟩, ⟨by omega⟩, ⟨by omega⟩, ⟨n + 1, dig_more hlt h2 hnC⟩, LeBy.le (pins := [0, 1, 2, 3, 4, 5, 6, 7, 8, 9]) hp (l := [(0, .old 0), (1, .old 1), (2, .old 2), (3, .old 3), (4, .old 4), (5, .old 5), (6, .old 6), (7, .old 7), (8, .old 8), (9, .old 9), (10, .old 10)]) ?_, by show 3 ^ C - (n + 1) < 3 ^ C - n; omega⟩
                cbv
                simp only [implies_true, and_true, true_and, IX.v_lit, IX.v_nat, IX.v_sy, BX.v_lit, BX.v_sy, NX.v_lit, NX.v_sy, addN, in_true, eq_self, Nat.succ_eq_add_one, intD_eq, encInt_le, encText_le, encSpan_le, encPair_le, encBox_le, encNote_le, encSight_le, cell_i_le, Nat.add_zero, Int.toNat_natCast, Nat.lt_irrefl, if_false, and_self, ncast, imp_self, in_self, in_self2, in_and, Int.cast_ofNat_Int, in_and2, noT, noF]
                refine ⟨⟨crs_len C (n + 1)⟩, ⟨fun e he => ?_⟩⟩
                rw [show (fun x : PUnit => (crs C (n + 1)).getD e 0) = fun _ => (dig (n + 1) e : Int) from funext fun _ => crs_get he]
                refine put1_le (z := .sy fun _ => (dig (n + 1) e : Int)) (fun h3 => ?_) fun h3 => ?_
                · subst h3
                  show ((dig (n + 1) e : Nat) : Int) = ((crsK n e e + 1 : Nat) : Int)
                  rw [hck, dig_next hd h2, if_neg (Nat.lt_irrefl e), if_pos rfl]
                · show ((dig (n + 1) e : Nat) : Int) = ((crsK n k e : Nat) : Int)
                  rw [dig_next hd h2, if_neg h3]
                  rfl
              · have h2 : dig n k = 2 := by have := dig_lt n k; (first | omega | (simp only [ncast] at *; omega))
                cbv
                simp only [implies_true, and_true, true_and, IX.v_lit, IX.v_nat, IX.v_sy, BX.v_lit, BX.v_sy, NX.v_lit, NX.v_sy, addN, in_true, eq_self, Nat.succ_eq_add_one, intD_eq, encInt_le, encText_le, encSpan_le, encPair_le, encBox_le, encNote_le, encSight_le, cell_i_le, Nat.add_zero, Int.toNat_natCast, Nat.lt_irrefl, if_false, and_self, ncast, imp_self, in_self, in_self2, in_and, Int.cast_ofNat_Int, in_and2, ltB_t, ltB_f, leB_t, leB_f, eqB_t, eqB_f, ltNB_t, ltNB_f, leNB_t, leNB_f, eqNB_t, eqNB_f, noT, noF, Bool.and_eq_true, Bool.or_eq_true, Bool.and_eq_false_iff, Bool.or_eq_false_iff]
                refine ⟨⟨by omega⟩, ⟨by omega⟩, ⟨nat_fits hlt (by omega)⟩, ⟨k + 1, by omega, fun j hj => by rcases Nat.lt_succ_iff_lt_or_eq.1 hj with h3 | h3; exact hd j h3; rw [h3]; exact h2⟩, LeBy.le (pins := [0, 1, 2, 3, 4, 5, 6, 7, 8, 9]) hp (l := [(0, .old 0), (1, .old 1), (2, .old 2), (3, .old 3), (4, .old 4), (5, .old 5), (6, .old 6), (7, .old 7), (8, .old 8), (9, .old 9), (10, .old 10)]) ?_, by show C - (k + 1) < C - k; omega⟩
                cbv
                simp only [implies_true, and_true, true_and, IX.v_lit, IX.v_nat, IX.v_sy, BX.v_lit, BX.v_sy, NX.v_lit, NX.v_sy, addN, in_true, eq_self, Nat.succ_eq_add_one, intD_eq, encInt_le, encText_le, encSpan_le, encPair_le, encBox_le, encNote_le, encSight_le, cell_i_le, Nat.add_zero, Int.toNat_natCast, Nat.lt_irrefl, if_false, and_self, ncast, imp_self, in_self, in_self2, in_and, Int.cast_ofNat_Int, in_and2, noT, noF]
                refine ⟨fun e he => put1_le (fun h3 => ?_) fun h3 => ?_⟩
                · show ((crsK n (k + 1) e : Nat) : Int) = 0
                  unfold crsK
                  rw [if_pos (by omega)]
                  rfl
                · show ((crsK n (k + 1) e : Nat) : Int) = ((crsK n k e : Nat) : Int)
                  unfold crsK
                  by_cases h4 : e < k
                  · rw [if_pos h4, if_pos (by omega)]
                  · rw [if_neg h4, if_neg (by omega)]
            · obtain rfl : C = k := by omega
              have hN := dig_last hd hnC
              cbv
              refine ⟨fun hs => ?_, fun hs => ?_⟩
              · have hs : someK st pl sk ss ns (n + 1) = false := by revert hs; cases someK st pl sk ss ns (n + 1) <;> simp
                have e1 : (kindsL st pl sk ss ns).length = 0 := by unfold kindsL; rw [decide_eq_true h, hC, ← hN, hs]; rfl
                have e2 : kindsE st pl sk ss ns = 9 := by unfold kindsE; rw [decide_eq_true h, hC, ← hN, hs]; rfl
                cbv
                refine ⟨⟨[.nil], ?_⟩, ⟨[.nil], ?_⟩⟩
                · cbv
                  simp only [implies_true, and_true, true_and, IX.v_lit, IX.v_nat, IX.v_sy, BX.v_lit, BX.v_sy, NX.v_lit, NX.v_sy, addN, in_true, eq_self, Nat.succ_eq_add_one, intD_eq, encInt_le, encText_le, encSpan_le, encPair_le, encBox_le, encNote_le, encSight_le, cell_i_le, Nat.add_zero, Int.toNat_natCast, Nat.lt_irrefl, if_false, and_self, ncast, imp_self, in_self, in_self2, in_and, Int.cast_ofNat_Int, in_and2, ltB_t, ltB_f, leB_t, leB_f, eqB_t, eqB_f, ltNB_t, ltNB_f, leNB_t, leNB_f, eqNB_t, eqNB_f, noT, noF, Bool.and_eq_true, Bool.or_eq_true, Bool.and_eq_false_iff, Bool.or_eq_false_iff]
                  exact ⟨⟨e1⟩, ⟨e2⟩⟩
                · cbv
                  simp only [implies_true, and_true, true_and, IX.v_lit, IX.v_nat, IX.v_sy, BX.v_lit, BX.v_sy, NX.v_lit, NX.v_sy, addN, in_true, eq_self, Nat.succ_eq_add_one, intD_eq, encInt_le, encText_le, encSpan_le, encPair_le, encBox_le, encNote_le, encSight_le, cell_i_le, Nat.add_zero, Int.toNat_natCast, Nat.lt_irrefl, if_false, and_self, ncast, imp_self, in_self, in_self2, in_and, Int.cast_ofNat_Int, in_and2, ltB_t, ltB_f, leB_t, leB_f, eqB_t, eqB_f, ltNB_t, ltNB_f, leNB_t, leNB_f, eqNB_t, eqNB_f, noT, noF, Bool.and_eq_true, Bool.or_eq_true, Bool.and_eq_false_iff, Bool.or_eq_false_iff]
                  exact ⟨⟨e1⟩, ⟨e2⟩⟩
              · have hs : someK st pl sk ss ns (n + 1) = true := by revert hs; cases someK st pl sk ss ns (n + 1) <;> simp
                have e1 : kindsL st pl sk ss ns = (List.range C).map fun k => (orK st pl sk ss ns (n + 1) k : Int) := by unfold kindsL; rw [decide_eq_true h, hC, ← hN, hs]; rfl
                have e2 : kindsE st pl sk ss ns = 0 := by unfold kindsE; rw [decide_eq_true h, hC, ← hN, hs]; rfl
                have e3 : (kindsL st pl sk ss ns).length = C := by rw [e1]; simp
                have e4 : ∀ e, e < C → (kindsL st pl sk ss ns).getD e 0 = (orK st pl sk ss ns (n + 1) e : Int) := fun e he => by rw [e1, List.getD_eq_getElem?_getD]; simp [he]
                cbv
                refine ⟨⟨[.old 3], ?_⟩, ⟨[.old 3], ?_⟩⟩
                · cbv
                  simp only [implies_true, and_true, true_and, IX.v_lit, IX.v_nat, IX.v_sy, BX.v_lit, BX.v_sy, NX.v_lit, NX.v_sy, addN, in_true, eq_self, Nat.succ_eq_add_one, intD_eq, encInt_le, encText_le, encSpan_le, encPair_le, encBox_le, encNote_le, encSight_le, cell_i_le, Nat.add_zero, Int.toNat_natCast, Nat.lt_irrefl, if_false, and_self, ncast, imp_self, in_self, in_self2, in_and, Int.cast_ofNat_Int, in_and2, ltB_t, ltB_f, leB_t, leB_f, eqB_t, eqB_f, ltNB_t, ltNB_f, leNB_t, leNB_f, eqNB_t, eqNB_f, noT, noF, Bool.and_eq_true, Bool.or_eq_true, Bool.and_eq_false_iff, Bool.or_eq_false_iff]
                  exact ⟨⟨⟨e3⟩, ⟨fun e he => int1_le (x := .nat (fun _ => orK st pl sk ss ns (n + 1) e) 0) (y := .sy fun _ => (kindsL st pl sk ss ns).getD e 0) (e4 e he)⟩⟩, ⟨e2⟩⟩
                · cbv
                  simp only [implies_true, and_true, true_and, IX.v_lit, IX.v_nat, IX.v_sy, BX.v_lit, BX.v_sy, NX.v_lit, NX.v_sy, addN, in_true, eq_self, Nat.succ_eq_add_one, intD_eq, encInt_le, encText_le, encSpan_le, encPair_le, encBox_le, encNote_le, encSight_le, cell_i_le, Nat.add_zero, Int.toNat_natCast, Nat.lt_irrefl, if_false, and_self, ncast, imp_self, in_self, in_self2, in_and, Int.cast_ofNat_Int, in_and2, ltB_t, ltB_f, leB_t, leB_f, eqB_t, eqB_f, ltNB_t, ltNB_f, leNB_t, leNB_f, eqNB_t, eqNB_f, noT, noF, Bool.and_eq_true, Bool.or_eq_true, Bool.and_eq_false_iff, Bool.or_eq_false_iff]
                  exact ⟨⟨⟨e3⟩, ⟨fun e he => int1_le (x := .nat (fun _ => orK st pl sk ss ns (n + 1) e) 0) (y := .sy fun _ => (kindsL st pl sk ss ns).getD e 0) (e4 e he)⟩⟩, ⟨e2⟩⟩
def spKindsOf : Spec := fun args M base => match args with
  | [.agg [.i .i64 st, .i .i64 pl, .i .i64 sk, c, d]] => ⟨In fun _ => okLife M c d, .tup [.one (.ref base), .one (.i .i64 (.sy fun _ => kindsE st.val pl.val sk.val (sights M c) (notes M d)))], [intRowT 3 fun _ => kindsL st.val pl.val sk.val (sights M c) (notes M d)], [], (seen M c).reads ++ (seen M d).reads⟩
  | _ => bad
theorem congrKindsOf : spKindsOf.Congr := by
  intro args M M' base hs h
  unfold spKindsOf at *
  split at hs
  · simp only [okLife, okSights, okNotes, sights, notes] at h ⊢
    rw [seen_congr (M := M) (M' := M') (fun i hi => h i (List.mem_append_left _ hi)), seen_congr (M := M) (M' := M') (fun i hi => h i (List.mem_append_right _ hi))]
  · exact hs.elim
theorem okKindsOf : SpecOk F0 Tryz.prog 28 spKindsOf := by
  refine spec_genM 8 (fn := Tryz.f28) (c := fbody Tryz.f28) (by kernel_rfl) rfl rfl (by kernel_rfl) congrKindsOf fun args M base hs => ?_
  unfold spKindsOf at hs ⊢
  split at hs
  · rename_i st pl sk c d
    exact ⟨[(23, spCheck)], fun r => Nat.beq r 5, [.agg [.i .i64 (.sy fun _ => st.val), .i .i64 (.sy fun _ => pl.val), .i .i64 (.sy fun _ => sk.val), .ref 0, .ref 1]], [sightRow .ro (sights M c), noteRow .ro (notes M d)], fun base => .tup [.one (.ref base), .one (.i .i64 (.sy fun _ => kindsE st.val pl.val sk.val (sights M c) (notes M d)))], fun _ => [intRowT 3 fun _ => kindsL st.val pl.val sk.val (sights M c) (notes M d)], ⟨okCheck, trivial⟩, Nat.le_of_ble_eq_true rfl, ⟨rfl, trivial⟩, .val rfl (.val rfl (.val rfl (.row (sight_from hs.ok.1) (.row (note_from hs.ok.2.1) .nil)))), rfl, rfl, rfl, ⟨tauN_at (t := 0) (Nat.zero_lt_one : 0 < 1), ⟨isT_iff.2 rfl, ⟨rfl⟩⟩, trivial⟩, ⟨rowOf_le intCod .own _ _, trivial⟩, own1 rfl, kinds_vc hs.ok.2.2.1 hs.ok.2.2.2⟩
  · exact hs.elim
end Go.Proofs.YthgllnnlngihoaaGreat.Sx
end
