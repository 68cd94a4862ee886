/- Regions: one operation after the other; in any order that the edges leave; Regions, whole; Regions, in any order that the edges leave; Regions, in any order that the edges leave: the proof; Regions, in any order that the edges leave: the end of the proof; regions, whole; Code: what must be shown of it, computed. -/
import Derived.RangeFuncRecord
import Derived.Scope
import Derived.Test.YthgllnnlngihoaaGreatSz02
section
set_option linter.unusedVariables false
set_option linter.unusedSimpArgs false
namespace Go.Proofs.YthgllnnlngihoaaGreat.Sx
open Go.RowKit

/-- What is known of a temporary: if it is set, and what it is then (else: undef). -/
abbrev Slots := Tmp → Option (BX × IV)
def SlotRel (σ : Ren) : Option (BX × IV) → Value → Prop
  | none, _ => True
  | some (p, iv), v => (p.val = true → IR σ iv v) ∧ (p.val = false → v = undef)
def SlotsRel (σ : Ren) (S : Slots) (tmps : Array Value) : Prop := ∀ t, SlotRel σ (S t) (tmps.getD t undef)

def constI : Value → BX × IV
  | .agg cs => (.lit (cs.toList.all (·.oneCell')), .agg (cs.toList.map constC))
  | v => (.lit v.oneCell', .one (constC v))
def evS (S : Slots) : Ev
  | .tmp t => match S t with
    | some x => x
    | none => (.lit false, .one .top)
  | .const v => constI v
  | .global g => (.lit false, .one .top)
  | .func f => (.lit true, .one (.c (.func (.func f) #[] #[])))

theorem constI_ok {σ : Ren} (v : Value) (h : (constI v).1.val = true) : IR σ (constI v).2 v := by
  unfold constI at h ⊢
  split
  · rename_i cs
    refine ⟨cs.toList, by simp, ?_⟩
    have : ∀ l : List Value, l.all (·.oneCell') = true → All2 (CR σ) (l.map constC) l := by
      intro l
      induction l with
      | nil => intro _; trivial
      | cons x r ih => intro h; simp only [List.all_cons, Bool.and_eq_true] at h; exact ⟨CR_const h.1, ih h.2⟩
    exact this _ h
  · rename_i v' hne
    split at h
    · exact (hne _ rfl).elim
    · exact CR_const h

theorem evS_ok {σ : Ren} {S : Slots} {a : Act} (h : SlotsRel σ S a.tmps) : ∀ x, (evS S x).1.val = true → IR σ (evS S x).2 (a.eval x) := by
  intro x hx
  cases x with
  | tmp t =>
    have := h t
    simp only [evS] at hx ⊢
    cases hS : S t with
    | none => rw [hS] at hx; cases hx
    | some x =>
      rw [hS] at hx this
      exact this.1 hx
  | const v => exact constI_ok v hx
  | global g => cases hx
  | func f => exact ⟨rfl, rfl⟩

def boolOf : IV → Option BX
  | .one (.b b) => some b
  | _ => none
def BX.is (b : BX) : Bool → BX
  | true => b
  | false => b.not
theorem BX.is_val (b : BX) (want : Bool) : (b.is want).val = (b.val == want) := by
  cases want with
  | true => simp [BX.is]
  | false => simp [BX.is, BX.not_val]
/-- Is an operation taken? -/
def guardI (ops : Array Oper) (S : Slots) (o : Oper) : Option BX := match o.guard with
  | none => some (.lit true)
  | some (j, want) => match (ops[j]?).bind (·.dst) with
    | none => none
    | some d => match S d with
      | some (p, iv) => match boolOf iv with
        | some b => some (p.and (b.is want))
        | none => match p with
          | .lit false => some (.lit false)
          | _ => none
      | none => none

theorem guardI_ok {ops : Array Oper} {σ : Ren} {S : Slots} {a : Act} (h : SlotsRel σ S a.tmps) {o : Oper} {act : BX} (hg : guardI ops S o = some act) : Region.wanted o (yielded ops a.tmps) = act.val := by
  unfold guardI at hg
  unfold Region.wanted
  cases hgd : o.guard with
  | none => simp only [hgd] at hg ⊢; cases hg; rfl
  | some x =>
    obtain ⟨j, want⟩ := x
    simp only [hgd] at hg ⊢
    unfold yielded
    cases hd : (ops[j]?).bind (·.dst) with
    | none => simp only [hd] at hg; cases hg
    | some d =>
      simp only [hd] at hg ⊢
      have hs := h d
      cases hS : S d with
      | none => simp only [hS] at hg; cases hg
      | some x =>
        obtain ⟨p, iv⟩ := x
        simp only [hS] at hg hs
        have hund : p.val = false → a.tmps[d]? = none ∨ a.tmps[d]? = some undef := by
          intro hp
          have hu := hs.2 hp
          rw [Array.getD_eq_getD_getElem?] at hu
          cases ht : a.tmps[d]? with
          | none => exact .inl rfl
          | some v =>
            rw [ht] at hu
            simp only [Option.getD_some] at hu
            subst hu
            exact .inr rfl
        cases hb : boolOf iv with
        | some b =>
          simp only [hb, Option.some.injEq] at hg
          subst hg
          rw [BX.and_val, BX.is_val]
          cases hp : p.val with
          | false =>
            simp only [Option.bind_some]
            rcases hund hp with e | e <;> rw [e] <;> cases want <;> rfl
          | true =>
            have hr := hs.1 hp
            have hiv : iv = .one (.b b) := by
              unfold boolOf at hb
              split at hb
              · cases hb; rfl
              · cases hb
            subst hiv
            have hu : a.tmps.getD d undef = .bool b.val := hr.2
            rw [Array.getD_eq_getD_getElem?] at hu
            cases ht : a.tmps[d]? with
            | none => rw [ht] at hu; cases hu
            | some v =>
              rw [ht] at hu
              simp only [Option.getD_some] at hu
              subst hu
              simp only [Option.bind_some, ht, Bool.true_and]
              cases b.val <;> cases want <;> rfl
        | none =>
          simp only [hb] at hg
          split at hg
          · cases hg
            simp only [Option.bind_some]
            rcases hund rfl with e | e <;> rw [e] <;> cases want <;> rfl
          · cases hg

/-- One operation, where it stands. -/
structure Nd where
  act : BX
  out : Out
  side : Prop

def off : Out := gives True (.one .top)
def actOut : Bool → BX → Out → Out
  | true, .lit false, _ => off
  | _, _, o => o
theorem actOut_true {lazy : Bool} {act : BX} {o : Out} (h : act.val = true) : actOut lazy act o = o := by
  unfold actOut
  split
  · simp [BX.val] at h
  · rfl
def ltAll (b : Nat) : List Nat → Bool
  | [] => true
  | i :: r => Nat.blt i b && ltAll b r
theorem ltAll_mem {b : Nat} : ∀ {l : List Nat}, ltAll b l = true → ∀ i ∈ l, i < b
  | [], _, _, h => by cases h
  | j :: r, h, i, hi => by
    simp only [ltAll, Bool.and_eq_true] at h
    rcases List.mem_cons.1 hi with e | hi
    · subst e; exact Nat.le_of_ble_eq_true h.1
    · exact ltAll_mem h.2 i hi
/-- What may or may not be done writes nothing. -/
def updOk : BX → List (Nat × Ob) → Prop
  | .sy _, _ :: _ => False
  | _, _ => True
/-- lazy: what is not taken is not looked at. -/
def ndOf (T : Tab) (E : EqTab) (Γ : Gam) (lazy : Bool) (ops : Array Oper) (S : Slots) (M : Mem) (base : Nat) (o : Oper) : Nd := match guardI ops S o with
  | none => ⟨.lit false, off, False⟩
  | some act => (fun out => ⟨act, out, updOk act out.upd ∧ impX act (needsOp o.op (evS S) ∧ isT (ltAll base out.reads) ∧ out.side)⟩) (actOut lazy act (evOp T E Γ o.op (evS S) M base))

def addL (M : Mem) (base : Nat) (l : List Ob) : Mem := fun i => if base ≤ i ∧ i < base + l.length then l[i - base]? else M i
def Nd.upd (nd : Nd) : List (Nat × Ob) := match nd.act with
  | .lit false => []
  | _ => nd.out.upd
def patchM (M : Mem) (base : Nat) (nd : Nd) : Mem := updL (addL M base nd.out.news) nd.upd
def patchS (S : Slots) (dst : Option Tmp) (nd : Nd) : Slots := fun t => if dst = some t then some (nd.act, nd.out.r) else S t

section
variable {F : Fence} {n : Nat} {P : Program} {T : Tab} {E : EqTab} {Γ : Gam} {B : Nat} {O : Nat → Prop} {σ : Ren} {M : Mem} {w : World} {base : Nat} {S : Slots} {lazy : Bool} {ops : Array Oper}

theorem Sim.mem (h : Sim B O σ M w) {M' : Mem} (hM : ∀ i hv, σ i = some hv → M' i = M i) : Sim B O σ M' w :=
  ⟨fun i hv hi => let ⟨ob, h1, h2⟩ := h.ob i hv hi; ⟨ob, (hM i hv hi).trans h1, h2⟩,
   fun i j hi hj oi oj b hne si sj mi mj => h.sep i j hi hj oi oj b hne si sj ((hM i hi si).symm.trans mi) ((hM j hj sj).symm.trans mj),
   fun i hi oi b si mi => h.own i hi oi b si ((hM i hi si).symm.trans mi), h.size⟩

theorem SlotRel.le {σ σ' : Ren} (h : Ren.le σ σ') : ∀ {x : Option (BX × IV)} {v : Value}, SlotRel σ x v → SlotRel σ' x v
  | none, _, _ => trivial
  | some (_, _), _, k => ⟨fun hp => (k.1 hp).le h, k.2⟩

theorem slots_put {σ' : Ren} (hle : Ren.le σ σ') {a : Act} (h : SlotsRel σ S a.tmps) {o : Oper} {nd : Nd} {v : Value} (hb : ∀ d, o.dst = some d → d < a.tmps.size) (hv : SlotRel σ' (some (nd.act, nd.out.r)) v) : SlotsRel σ' (patchS S o.dst nd) (a.put o.dst v).tmps := by
  intro t
  unfold patchS
  cases hd : o.dst with
  | none =>
    simp only [Act.put, reduceCtorEq, if_false]
    exact (h t).le hle
  | some d =>
    have hlt := hb d hd
    by_cases e : d = t
    · subst e
      simp only [if_true, Act.put]
      rw [Array.getD_eq_getD_getElem?]
      simp only [Array.getElem?_setIfInBounds, if_true, hlt, Option.getD_some]
      exact hv
    · simp only [Option.some.injEq, e, if_false, Act.put]
      rw [Array.getD_eq_getD_getElem?, Array.getElem?_setIfInBounds_ne e, ← Array.getD_eq_getD_getElem?]
      exact (h t).le hle

theorem Act.put_size (a : Act) (dst : Option Tmp) (v : Value) : (a.put dst v).tmps.size = a.tmps.size := by
  cases dst <;> simp [Act.put]
theorem Act.put_defers' (a : Act) (dst : Option Tmp) (v : Value) : (a.put dst v).defers = a.defers := by
  cases dst <;> rfl

theorem ndOf_noupd {o : Oper} (hs : (ndOf T E Γ lazy ops S M base o).side) (ha : (ndOf T E Γ lazy ops S M base o).act.val = false) : (ndOf T E Γ lazy ops S M base o).upd = [] := by
  unfold ndOf at hs ha ⊢
  cases hg : guardI ops S o with
  | none => rw [hg] at hs; exact hs.elim
  | some act =>
    rw [hg] at hs ha
    have hs1 : updOk act (actOut lazy act (evOp T E Γ o.op (evS S) M base)).upd := hs.1
    have ha : act.val = false := ha
    unfold Nd.upd
    cases act with
    | lit b => cases b with
      | true => simp [BX.val] at ha
      | false => rfl
    | sy f =>
      simp only at hs1 ⊢
      cases hu : (actOut lazy (.sy f) (evOp T E Γ o.op (evS S) M base)).upd with
      | nil => rfl
      | cons x r => rw [hu] at hs1; exact hs1.elim

/-- ONE STEP OF A REGION. -/
theorem nd_step (hF : ∀ f, F.fn f) (hD : F.depth = none) (hT : TabOk P T) (hE : EqOk P E) (hΓ : GamOk F P Γ) (h : Sim B O σ M w) {i : Nat} {o : Oper} (hi : ops[i]? = some o) {a : Act} (hS : SlotsRel σ S a.tmps) {nd : Nd} (hnd : nd.act.val = true → ndOf T E Γ lazy ops S M base o = nd) (hnu : nd.act.val = false → nd.upd = []) (hg : guardI ops S o = some nd.act) (hs : nd.side)
    (hb : ∀ d, o.dst = some d → d < a.tmps.size) (hfree : ∀ t, t < nd.out.news.length → σ (base + t) = none) {Q : Exit → Act → World → Prop} {K : Act → World → Prop}
    (k : ∀ a' w' σ', a'.tmps.size = a.tmps.size → a'.defers = a.defers → SlotsRel σ' (patchS S o.dst nd) a'.tmps → Sim B O σ' (patchM M base nd) w' → Ren.le σ σ' → (∀ i u, σ' i = some u → σ i = some u ∨ (base ≤ i ∧ i < base + nd.out.news.length)) → Keep B O w w' → K a' w') :
    wpOpIn F n P ops Q i K a w := by
  have hadd : ∀ i hv, σ i = some hv → addL M base nd.out.news i = M i := by
    intro i hv hσ
    unfold addL
    rw [if_neg]
    rintro ⟨h1, h2⟩
    have := hfree (i - base) (by omega)
    rw [show base + (i - base) = i by omega, hσ] at this
    cases this
  unfold wpOpIn
  simp only [hi]
  rw [guardI_ok hS hg]
  cases hact : nd.act.val with
  | false =>
    simp only [Bool.false_eq_true, if_false]
    refine ⟨fun f _ => hF f, k _ _ σ (Act.put_size _ _ _) (Act.put_defers' _ _ _) (slots_put (fun _ _ h => h) hS hb (show SlotRel σ (some (nd.act, nd.out.r)) undef from ⟨fun hh => by simp [hact] at hh, fun _ => rfl⟩)) ?_ (fun _ _ h => h) (fun i u h => .inl h) (Keep.refl _ _ _)⟩
    have : nd.upd = [] := hnu hact
    unfold patchM
    rw [this]
    exact h.mem hadd
  | true =>
    have hnd := hnd hact
    unfold ndOf at hnd
    rw [hg] at hnd
    simp only [if_true]
    simp only [actOut_true hact] at hnd
    have hupd : nd.upd = nd.out.upd := by
      unfold Nd.upd
      split
      · rename_i h; rw [h] at hact; simp [BX.val] at hact
      · rfl
    generalize hna : nd.act = act at hnd hact hg
    subst hnd
    obtain ⟨hn, hrd, hs⟩ := impX_iff.1 hs.2 hact
    have hrd := ltAll_mem (isT_iff.1 hrd)
    have hcg : evOp T E Γ o.op (evS S) (addL M base (evOp T E Γ o.op (evS S) M base).news) base = evOp T E Γ o.op (evS S) M base := by
      refine evOp_congr (fun f sp hf => (hΓ f sp hf).congr) hs fun i hi' => ?_
      have := hrd i hi'
      unfold addL
      rw [if_neg (by omega)]
    refine evOp_wp (Γ := Γ) (T := T) (E := E) (M := addL M base (evOp T E Γ o.op (evS S) M base).news) (base := base) (ev := evS S) hF hD hT hE hΓ (h.mem hadd) (evS_ok hS) hn (by rw [hcg]; exact hs) (fun t ob ht => ?_) (fun t ht => ?_) (fun v w' σ' hst => ?_)
    · rw [hcg] at ht
      unfold addL
      have hlt := (List.getElem?_eq_some_iff.1 ht).1
      rw [if_pos (by omega), show base + t - base = t by omega]
      exact ht
    · rw [hcg] at ht
      exact hfree t ht
    · rw [hcg] at hst
      refine k _ _ σ' (Act.put_size _ _ _) (Act.put_defers' _ _ _) (slots_put hst.le hS hb ⟨fun _ => hst.r, fun h => ?_⟩) ?_ hst.le hst.dom hst.keep
      · have h : act.val = false := h
        rw [hact] at h
        cases h
      · unfold patchM
        rw [hupd]
        exact hst.sim
end
end Go.Proofs.YthgllnnlngihoaaGreat.Sx
end
section
set_option linter.unusedVariables false
set_option linter.unusedSimpArgs false
namespace Go.Proofs.YthgllnnlngihoaaGreat.Sx
open Go.RowKit

/-- How ideal memory is written down. -/
abbrev ML := List (Nat × Ob)
def lget : ML → Mem
  | [], _ => none
  | (t, x) :: r, t' => if t = t' then some x else lget r t'
def lset : ML → Nat → Ob → ML
  | [], t, x => [(t, x)]
  | (t', y) :: r, t, x => if t' = t then (t, x) :: r else (t', y) :: lset r t x
theorem lget_lset : ∀ (s : ML) (t : Nat) (x : Ob) (t' : Nat), lget (lset s t x) t' = if t' = t then some x else lget s t'
  | [], t, x, t' => by simp [lset, lget, eq_comm]
  | (u, y) :: r, t, x, t' => by
    unfold lset
    split
    · rename_i e
      subst e
      simp only [lget, eq_comm]
      split <;> rfl
    · rename_i e
      simp only [lget, lget_lset r]
      by_cases h : u = t'
      · subst h
        simp [e]
      · simp [h]
theorem lset_ok (m : ML) (i : Nat) (ob : Ob) : lget (lset m i ob) = updM (lget m) i ob := funext fun j => lget_lset m i ob j

abbrev SL := List (Tmp × (BX × IV))
def SL.get : SL → Slots
  | [], _ => none
  | (t, x) :: r, t' => if t = t' then some x else SL.get r t'
def SL.set : SL → Tmp → (BX × IV) → SL
  | [], t, x => [(t, x)]
  | (t', y) :: r, t, x => if t' = t then (t, x) :: r else (t', y) :: SL.set r t x
theorem SL.get_set : ∀ (s : SL) (t : Tmp) (x : BX × IV) (t' : Tmp), (s.set t x).get t' = if t = t' then some x else s.get t'
  | [], t, x, t' => by simp [SL.set, SL.get]
  | (u, y) :: r, t, x, t' => by
    unfold SL.set
    split
    · rename_i e
      subst e
      simp only [SL.get]
      split <;> rfl
    · rename_i e
      simp only [SL.get, SL.get_set r]
      split
      · rename_i e2
        subst e2
        rw [if_neg (fun h => e h.symm)]
      · rfl

structure St where
  S : SL
  M : ML
  base : Nat

def setSt (S : SL) (dst : Option Tmp) (nd : Nd) : SL := match dst with
  | none => S
  | some d => S.set d (nd.act, nd.out.r)
theorem setSt_get (S : SL) (dst : Option Tmp) (nd : Nd) : (setSt S dst nd).get = patchS S.get dst nd := by
  funext t
  cases dst with
  | none => simp [setSt, patchS]
  | some d => simp [setSt, patchS, SL.get_set]

def addR : ML → Nat → List Ob → ML
  | m, _, [] => m
  | m, i, ob :: r => addR (lset m i ob) (i + 1) r
def updR : ML → List (Nat × Ob) → ML
  | m, [] => m
  | m, (i, ob) :: r => updR (lset m i ob) r
theorem addR_get : ∀ (l : List Ob) (m : ML) (i : Nat), lget (addR m i l) = addL (lget m) i l
  | [], m, i => by funext j; simp [addR, addL]; omega
  | ob :: r, m, i => by
    rw [addR, addR_get r]
    funext j
    unfold addL
    rw [lset_ok]
    by_cases h1 : j = i
    · subst h1
      rw [if_neg (by omega), if_pos (by simp), updM_same]
      simp
    · rw [updM_other _ _ h1]
      by_cases h2 : i + 1 ≤ j ∧ j < i + 1 + r.length
      · rw [if_pos h2, if_pos (by simp only [List.length_cons]; omega)]
        rw [show j - i = (j - (i + 1)) + 1 by omega]
        simp
      · rw [if_neg h2, if_neg (by simp only [List.length_cons]; omega)]
theorem updR_get : ∀ (l : List (Nat × Ob)) (m : ML), lget (updR m l) = updL (lget m) l
  | [], m => rfl
  | (i, ob) :: r, m => by rw [updR, updR_get r, lset_ok]; rfl

def St.step (st : St) (o : Oper) (nd : Nd) : St := ⟨setSt st.S o.dst nd, updR (addR st.M st.base nd.out.news) nd.upd, st.base + nd.out.news.length⟩
theorem St.step_mem (st : St) (o : Oper) (nd : Nd) : lget (st.step o nd).M = patchM (lget st.M) st.base nd := by
  simp only [St.step, updR_get, addR_get]; rfl

/-- A function's fixed matters: its objects that are pinned, what it may write, where the heap ended, its temporaries' number. -/
structure Cx where
  π : Ren
  B : Nat
  O : Nat → Prop
  nt : Nat
  df : Option Nat

/-- What an activation has put off: nothing; the mark of a range over a function, whose block is an object. -/
def DefOk (mk : Option Nat) (σ : Ren) (ds : List Deferred) : Prop := ds = [] ∨ ∃ i r, mk = some i ∧ σ i = some (.pointer (some ⟨r, 0, none⟩)) ∧ ds = [{ target := .collected r, args := #[] }]
theorem DefOk.le {mk : Option Nat} {σ σ' : Ren} {ds : List Deferred} (h : DefOk mk σ ds) (hle : Ren.le σ σ') : DefOk mk σ' ds := by
  rcases h with h | ⟨i, r, h1, h2, h3⟩
  · exact .inl h
  · exact .inr ⟨i, r, h1, hle _ _ h2, h3⟩
theorem DefOk.none {σ : Ren} {ds : List Deferred} (h : DefOk none σ ds) : ds = [] := by
  rcases h with h | ⟨i, r, h1, _⟩
  · exact h
  · cases h1

structure At (X : Cx) (σ : Ren) (st : St) (a : Act) (w : World) : Prop where
  slots : SlotsRel σ st.S.get a.tmps
  sim : Sim X.B X.O σ (lget st.M) w
  dom : ∀ i u, σ i = some u → i < st.base
  pin : ∀ i u, X.π i = some u → σ i = some u
  size : a.tmps.size = X.nt
  defers : DefOk X.df σ a.defers

section
variable {F : Fence} {n : Nat} {P : Program} {T : Tab} {E : EqTab} {Γ : Gam} {lazy : Bool} {X : Cx}

def ndAt (T : Tab) (E : EqTab) (Γ : Gam) (lazy : Bool) (ops : Array Oper) (st : St) (o : Oper) : Nd := ndOf T E Γ lazy ops st.S.get (lget st.M) st.base o

def dstOk (nt : Nat) (o : Oper) : Bool := match o.dst with
  | none => true
  | some d => decide (d < nt)

def ndWrites (base : Nat) (nd : Nd) : List Nat := List.range' base nd.out.news.length ++ nd.upd.map (·.1)
def ndReads (nd : Nd) : List Nat := nd.out.reads

/-- The operations in the order of the text; what each writes and looks at. -/
def opsK (T : Tab) (E : EqTab) (Γ : Gam) (lazy : Bool) (ops : Array Oper) : List Oper → St → List (Nat × List Nat × List Nat) → (St → List (Nat × List Nat × List Nat) → Prop) → Prop
  | [], st, acc, K => K st acc
  | o :: r, st, acc, K => (fun nd => nd.side ∧ opsK T E Γ lazy ops r (st.step o nd) ((acc.length, ndWrites st.base nd, ndReads nd) :: acc) K) (ndAt T E Γ lazy ops st o)

theorem nd_guard {ops : Array Oper} {S : Slots} {M : Mem} {base : Nat} {o : Oper} (h : (ndOf T E Γ lazy ops S M base o).side) : guardI ops S o = some (ndOf T E Γ lazy ops S M base o).act := by
  unfold ndOf at h ⊢
  cases hg : guardI ops S o with
  | none => simp only [hg] at h
  | some act => rfl

/-- One step, at a state. -/
theorem At.step (hF : ∀ f, F.fn f) (hD : F.depth = none) (hT : TabOk P T) (hE : EqOk P E) (hΓ : GamOk F P Γ) {σ : Ren} {st : St} {a : Act} {w : World} (h : At X σ st a w) {ops : Array Oper} {i : Nat} {o : Oper} (hi : ops[i]? = some o) (hs : (ndAt T E Γ lazy ops st o).side) (hd : dstOk X.nt o = true)
    {Q : Exit → Act → World → Prop} {K : Act → World → Prop} (k : ∀ σ' a' w', At X σ' (st.step o (ndAt T E Γ lazy ops st o)) a' w' → Keep X.B X.O w w' → K a' w') : wpOpIn F n P ops Q i K a w := by
  refine nd_step (S := st.S.get) (M := lget st.M) (base := st.base) (σ := σ) (lazy := lazy) hF hD hT hE hΓ h.sim (nd := ndAt T E Γ lazy ops st o) hi h.slots (fun _ => rfl) (ndOf_noupd hs) (nd_guard hs) hs ?_ ?_ fun a' w' σ' h1 h2 h3 h4 h5 h6 h7 => ?_
  · intro d hd'
    unfold dstOk at hd
    rw [hd'] at hd
    rw [h.size]
    simpa using hd
  · intro t _
    cases hσ : σ (st.base + t) with
    | none => rfl
    | some u => have := h.dom _ u hσ; omega
  · refine k σ' a' w' ⟨by simp only [St.step, setSt_get]; exact h3, by rw [St.step_mem]; exact h4, fun i u hu => ?_, fun i u hu => h5 _ _ (h.pin i u hu), by rw [h1, h.size], by rw [h2]; exact h.defers.le h5⟩ h7
    rcases h6 i u hu with h8 | ⟨_, h8⟩
    · have := h.dom i u h8
      show i < st.base + _
      omega
    · exact h8

/-- The operations in the order of the text. -/
theorem ops_seq (hF : ∀ f, F.fn f) (hD : F.depth = none) (hT : TabOk P T) (hE : EqOk P E) (hΓ : GamOk F P Γ) {ops : Array Oper} {Q : Exit → Act → World → Prop} (hd : ops.all (dstOk X.nt) = true) : ∀ (m k : Nat), k + m = ops.size → ∀ {σ : Ren} {st : St} {a : Act} {w : World} {acc K}, At X σ st a w → opsK T E Γ lazy ops (ops.toList.drop k) st acc K →
    (∀ σ' st' a' w' acc', K st' acc' → At X σ' st' a' w' → Keep X.B X.O w w' → Q .normal a' w') → wpOpsIn F n P ops Q (List.range' k m) a w
  | 0, k, hk, σ, st, a, w, acc, K, h, hK, hQ => by
    rw [List.drop_of_length_le (by simp; omega)] at hK
    exact hQ σ st a w acc hK h (Keep.refl _ _ _)
  | m + 1, k, hk, σ, st, a, w, acc, K, h, hK, hQ => by
    have hlt : k < ops.size := by omega
    rw [List.drop_eq_getElem_cons (by simpa using hlt)] at hK
    simp only [opsK, Array.getElem_toList] at hK
    rw [List.range'_succ, wpOpsIn_cons]
    have hdk : dstOk X.nt ops[k] = true := by
      have := Array.all_eq_true.1 hd k hlt
      exact this
    refine h.step (lazy := lazy) (i := k) (o := ops[k]) hF hD hT hE hΓ (by simp [hlt]) hK.1 hdk fun σ' a' w' h' hk' => ?_
    exact ops_seq hF hD hT hE hΓ hd m (k + 1) (by omega) h' hK.2 fun σ2 st2 a2 w2 acc2 h1 h2 h3 => hQ σ2 st2 a2 w2 acc2 h1 h2 (hk'.trans h3)
end
end Go.Proofs.YthgllnnlngihoaaGreat.Sx
end
section
set_option linter.unusedVariables false
set_option linter.unusedSimpArgs false
namespace Go.Proofs.YthgllnnlngihoaaGreat.Sx
open Go.RowKit

/-! ### What stands before what -/
def bit (m : List Nat) (q p : Nat) : Bool := (m.getD q 0).testBit p
def maskGo : List Oper → List Nat → List Nat
  | [], m => m
  | o :: r, m => maskGo r (m ++ [o.after.toList.foldl (fun acc e => if Region.binds .any e then acc ||| (2 ^ e.on) ||| m.getD e.on 0 else acc) 0])
def maskOf (ops : Array Oper) : List Nat := maskGo ops.toList []
def maskOk (ops : Array Oper) (m : List Nat) : Bool := (List.range ops.size).all fun q => match ops[q]? with
  | none => true
  | some o => o.after.toList.all (fun e => !Region.binds .any e || decide (e.on < q)) &&
    (List.range q).all fun p => !bit m q p || o.after.toList.any fun e => Region.binds .any e && (e.on == p || (decide (p < e.on) && bit m e.on p))

def usesOf (ops : Array Oper) (o : Oper) : List Tmp := o.op.operands.toList.filterMap (fun | .tmp t => some t | _ => none) ++ (match o.guard with
  | some (j, _) => ((ops[j]?).bind (·.dst)).toList
  | none => [])

def meets (l m : List Nat) : Bool := l.any fun x => m.contains x
def slotMeet (ops : Array Oper) (o o' : Oper) : Bool := match o.dst with
  | none => false
  | some d => (usesOf ops o').contains d || o'.dst == some d
def slotOk (ops : Array Oper) (m : List Nat) : Bool := (List.range ops.size).all fun q => (List.range q).all fun p => match ops[q]?, ops[p]? with
  | some o, some o' => bit m q p || (!slotMeet ops o o' && !slotMeet ops o' o)
  | _, _ => true

def ordB (m : List Nat) (p q : Nat) : Bool := if p < q then bit m q p else bit m p q
def memOk (m : List Nat) (acc : List (Nat × List Nat × List Nat)) : Bool := acc.all fun x => x.2.1.isEmpty || acc.all fun y => x.1 == y.1 || ordB m x.1 y.1 || !meets x.2.1 (y.2.2 ++ y.2.1)
def noWrites (acc : List (Nat × List Nat × List Nat)) : Bool := acc.all fun x => x.2.1.isEmpty

theorem meets_spec {l m : List Nat} (h : meets l m = false) {i : Nat} (hi : i ∈ l) : i ∉ m := by
  intro hm
  have : meets l m = true := List.any_eq_true.2 ⟨i, hi, List.contains_iff_mem.2 hm⟩
  rw [h] at this
  cases this

theorem mask_down {ops : Array Oper} {m : List Nat} (hm : maskOk ops m = true) {inS : Nat → Bool} (hcl : ∀ q o, ops[q]? = some o → inS q = true → ∀ e ∈ o.after, Region.binds .any e = true → inS e.on = true) :
    ∀ q p, p < q → q < ops.size → bit m q p = true → inS q = true → inS p = true := by
  intro q
  induction q using Nat.strongRecOn with
  | ind q ih =>
    intro p hp hq hb hS
    have h1 := List.all_eq_true.1 hm q (List.mem_range.2 hq)
    have ho : ops[q]? = some ops[q] := by simp [hq]
    simp only [ho, Bool.and_eq_true] at h1
    have h2 := List.all_eq_true.1 h1.2 p (List.mem_range.2 hp)
    simp only [hb, Bool.not_true, Bool.false_or, List.any_eq_true] at h2
    obtain ⟨e, he, h2⟩ := h2
    simp only [Bool.and_eq_true, Bool.or_eq_true, beq_iff_eq, decide_eq_true_eq] at h2
    have hlt : e.on < q := by
      have := List.all_eq_true.1 h1.1 e he
      simp only [h2.1, Bool.not_true, Bool.false_or, decide_eq_true_eq] at this
      exact this
    have hin := hcl q _ ho hS e (by simpa using he) h2.1
    rcases h2.2 with h3 | ⟨h3, h4⟩
    · rw [← h3]; exact hin
    · exact ih e.on hlt p h3 (by omega) h4 hin

theorem mask_back {ops : Array Oper} {m : List Nat} (hm : maskOk ops m = true) {q : Nat} {o : Oper} (ho : ops[q]? = some o) {e : Edge} (he : e ∈ o.after) (hb : Region.binds .any e = true) : e.on < q := by
  have hq : q < ops.size := (Array.getElem?_eq_some_iff.1 ho).1
  have h1 := List.all_eq_true.1 hm q (List.mem_range.2 hq)
  simp only [ho, Bool.and_eq_true] at h1
  have := List.all_eq_true.1 h1.1 e (by simpa using he)
  simp only [hb, Bool.not_true, Bool.false_or, decide_eq_true_eq] at this
  exact this

/-! ### What an operation looks at -/
section
variable {T : Tab} {E : EqTab} {Γ : Gam} {M M' : Mem} {base : Nat} {ev ev' : Ev}

theorem needs_ev : ∀ {l : List Operand}, (∀ x ∈ l, ev x = ev' x) → (needs ev l ↔ needs ev' l)
  | [], _ => Iff.rfl
  | x :: r, h => by
    simp only [needs]
    rw [h x (by simp), needs_ev (l := r) fun y hy => h y (by simp [hy])]
theorem needsOp_ev {op : Op} (h : ∀ x ∈ op.operands.toList, ev x = ev' x) : needsOp op ev ↔ needsOp op ev' := by
  unfold needsOp
  split
  · exact Iff.rfl
  · exact needs_ev h
theorem map_ev {l : List Operand} (h : ∀ x ∈ l, ev x = ev' x) : (l.map fun x => (ev x).2) = l.map fun x => (ev' x).2 := List.map_congr_left fun x hx => by rw [h x hx]

theorem evOp_ev {op : Op} (h : ∀ x ∈ op.operands.toList, ev x = ev' x) : evOp T E Γ op ev M base = evOp T E Γ op ev' M base := by
  have h1 : ∀ x, x ∈ op.operands.toList → (ev x).2 = (ev' x).2 := fun x hx => by rw [h x hx]
  cases op
  case build t ps =>
    have : (ps.toList.map fun p => (p.1, (ev p.2).2)) = ps.toList.map fun p => (p.1, (ev' p.2).2) := List.map_congr_left fun p hp => by
      rw [h p.2 (by simp [Op.operands]; exact ⟨p.1, by simpa using hp⟩)]
    simp only [evOp, this]
  case buildSlice t len ps =>
    have : (ps.toList.map fun p => (p.1, (ev p.2).2)) = ps.toList.map fun p => (p.1, (ev' p.2).2) := List.map_congr_left fun p hp => by
      rw [h p.2 (by simp [Op.operands]; exact ⟨p.1, by simpa using hp⟩)]
    simp only [evOp, this]
  case pick c a b =>
    simp only [evOp, pickI, h c (by simp [Op.operands]), h a (by simp [Op.operands]), h b (by simp [Op.operands])]
  case makeFunc fn first cap =>
    simp only [evOp]
    rw [map_ev (ev := ev) (ev' := ev') (l := first.toList) fun x hx => h x (by simp [Op.operands]; exact .inl (by simpa using hx)), map_ev (ev := ev) (ev' := ev') (l := cap.toList) fun x hx => h x (by simp [Op.operands]; exact .inr (by simpa using hx))]
  case slice t x lo hi mx =>
    cases mx with
    | some _ => rfl
    | none =>
      simp only [evOp]
      rw [h1 x (by simp [Op.operands])]
      have hl : (lo.map fun y => (ev y).2) = lo.map fun y => (ev' y).2 := by
        cases lo with
        | none => rfl
        | some y => simp only [Option.map_some]; rw [h1 y (by simp [Op.operands])]
      have hh : (hi.map fun y => (ev y).2) = hi.map fun y => (ev' y).2 := by
        cases hi with
        | none => rfl
        | some y => simp only [Option.map_some]; rw [h1 y (by simp [Op.operands])]
      rw [hl, hh]
  case call c =>
    have ha : ∀ x ∈ c.args.toList, ev x = ev' x := fun x hx => h x (by
      show x ∈ (Call.operands c).toList
      unfold Call.operands
      simp only [Array.toList_append, List.mem_append]
      exact .inr hx)
    have hmap := map_ev (ev := ev) (ev' := ev') ha
    simp only [evOp]
    unfold callI
    split
    · rename_i b hc
      split
      · rename_i x t hx ht
        rw [ha x (by rw [hx]; simp)]
      · rename_i x y t t' hx ht
        rw [ha x (by rw [hx]; simp), ha y (by rw [hx]; simp)]
      · rename_i _ x y hx
        rw [ha x (by rw [hx]; simp), ha y (by rw [hx]; simp)]
      · rename_i _ x y hx
        rw [ha x (by rw [hx]; simp), ha y (by rw [hx]; simp)]
      · rename_i _ x y z hx
        rw [ha x (by rw [hx]; simp), ha y (by rw [hx]; simp), ha z (by rw [hx]; simp)]
      · rfl
    · rename_i f hc
      have hf : ev f = ev' f := h f (by
        show f ∈ (Call.operands c).toList
        unfold Call.operands
        simp [hc])
      rw [hf, hmap]
    · rfl
  all_goals first | rfl | (simp only [evOp]; simp [h1, Op.operands]; done) | skip
  all_goals simp only [evOp]
  all_goals simp only [Op.operands] at h1
  all_goals first | (rw [h1 _ (by simp)]; done) | (rw [h1 _ (List.mem_cons_self ..), h1 _ (List.mem_cons_of_mem _ (List.mem_cons_self ..))]; done) | skip
end
end Go.Proofs.YthgllnnlngihoaaGreat.Sx
end
section
set_option linter.unusedVariables false
set_option linter.unusedSimpArgs false
namespace Go.Proofs.YthgllnnlngihoaaGreat.Sx
open Go.RowKit

section
variable {T : Tab} {E : EqTab} {Γ : Gam} {lazy : Bool} {ops : Array Oper} {S S' : Slots} {M M' : Mem} {base : Nat} {o : Oper}

theorem evS_congr {x : Operand} (h : ∀ t, x = .tmp t → S t = S' t) : evS S x = evS S' x := by
  cases x with
  | tmp t => simp only [evS, h t rfl]
  | _ => rfl
theorem uses_ev (h : ∀ t ∈ usesOf ops o, S t = S' t) : ∀ x ∈ o.op.operands.toList, evS S x = evS S' x := fun x hx => evS_congr fun t ht => h t (by
  unfold usesOf
  refine List.mem_append_left _ (List.mem_filterMap.2 ⟨x, hx, ?_⟩)
  subst ht
  rfl)
theorem uses_guard (h : ∀ t ∈ usesOf ops o, S t = S' t) : guardI ops S o = guardI ops S' o := by
  unfold guardI
  cases hg : o.guard with
  | none => rfl
  | some x =>
    obtain ⟨j, want⟩ := x
    simp only
    cases hd : (ops[j]?).bind (·.dst) with
    | none => rfl
    | some d => simp only; rw [h d (by unfold usesOf; rw [hg]; simp only [hd]; simp)]

/-- What a taken operation gives depends on what it looks at alone. -/
theorem ndOf_congr (hΓ : ∀ f sp, Γ f = some sp → sp.Congr) (h : ∀ t ∈ usesOf ops o, S t = S' t) {nd : Nd} (hnd : ndOf T E Γ lazy ops S M base o = nd) (hs : nd.side) (ha : nd.act.val = true) (hM : ∀ i ∈ nd.out.reads, M' i = M i) : ndOf T E Γ lazy ops S' M' base o = nd := by
  have hg := nd_guard (hnd ▸ hs)
  rw [hnd] at hg
  have hg' := (uses_guard h).symm.trans hg
  unfold ndOf at hnd ⊢
  simp only [hg, hg', actOut_true ha] at hnd ⊢
  generalize nd.act = act at hnd ha hg hg' ⊢
  subst hnd
  obtain ⟨hn, hr, hs⟩ := impX_iff.1 hs.2 ha
  have he := evOp_ev (T := T) (E := E) (Γ := Γ) (M := M') (base := base) (uses_ev h)
  have hc := evOp_congr hΓ hs hM
  have hn' := needsOp_ev (uses_ev h)
  rw [← he, hc]
  simp only [hn']
end

theorem updL_at {M M' : Mem} {i : Nat} (h : M i = M' i) : ∀ l, updL M l i = updL M' l i := by
  intro l
  induction l generalizing M M' with
  | nil => exact h
  | cons x r ih =>
    obtain ⟨j, ob⟩ := x
    refine ih ?_
    unfold updM
    split
    · rfl
    · exact h
theorem updL_off {M : Mem} {i : Nat} : ∀ {l : List (Nat × Ob)}, i ∉ l.map (·.1) → updL M l i = M i := by
  intro l
  induction l generalizing M with
  | nil => intro _; rfl
  | cons x r ih =>
    intro h
    obtain ⟨j, ob⟩ := x
    simp only [List.map_cons, List.mem_cons, not_or] at h
    exact (ih h.2).trans (updM_other _ _ h.1)
theorem patchM_at {M M' : Mem} {i base : Nat} {nd : Nd} (h : M i = M' i) : patchM M base nd i = patchM M' base nd i := by
  unfold patchM
  refine updL_at ?_ _
  unfold addL
  split
  · rfl
  · exact h
theorem patchM_off {M : Mem} {i base : Nat} {nd : Nd} (h : i ∉ ndWrites base nd) : patchM M base nd i = M i := by
  unfold ndWrites at h
  simp only [List.mem_append, not_or] at h
  unfold patchM
  rw [updL_off h.2]
  unfold addL
  rw [if_neg]
  rintro ⟨h1, h2⟩
  refine h.1 (List.mem_range'.2 ⟨i - base, by omega, by omega⟩)

section
variable {F : Fence} {n : Nat} {P : Program} {T : Tab} {E : EqTab} {Γ : Gam} {lazy : Bool} {X : Cx} {ops : Array Oper} {st0 : St}

/-- The states in the order of the text. -/
def stN (T : Tab) (E : EqTab) (Γ : Gam) (lazy : Bool) (ops : Array Oper) (st0 : St) : Nat → St
  | 0 => st0
  | k + 1 => match ops[k]? with
    | some o => (stN T E Γ lazy ops st0 k).step o (ndAt T E Γ lazy ops (stN T E Γ lazy ops st0 k) o)
    | none => stN T E Γ lazy ops st0 k
def ndN (T : Tab) (E : EqTab) (Γ : Gam) (lazy : Bool) (ops : Array Oper) (st0 : St) (k : Nat) : Nd := match ops[k]? with
  | some o => ndAt T E Γ lazy ops (stN T E Γ lazy ops st0 k) o
  | none => ⟨.lit false, off, False⟩
def baN (T : Tab) (E : EqTab) (Γ : Gam) (lazy : Bool) (ops : Array Oper) (st0 : St) (k : Nat) : Nat := (stN T E Γ lazy ops st0 k).base
def accN (T : Tab) (E : EqTab) (Γ : Gam) (lazy : Bool) (ops : Array Oper) (st0 : St) : Nat → List (Nat × List Nat × List Nat)
  | 0 => []
  | k + 1 => (k, ndWrites (baN T E Γ lazy ops st0 k) (ndN T E Γ lazy ops st0 k), ndReads (ndN T E Γ lazy ops st0 k)) :: accN T E Γ lazy ops st0 k
theorem accN_len : ∀ k, (accN T E Γ lazy ops st0 k).length = k
  | 0 => rfl
  | k + 1 => by rw [accN, List.length_cons, accN_len k]


theorem stN_succ {k : Nat} (hk : k < ops.size) : stN T E Γ lazy ops st0 (k + 1) = (stN T E Γ lazy ops st0 k).step ops[k] (ndN T E Γ lazy ops st0 k) := by
  simp only [stN, ndN, Array.getElem?_eq_getElem hk]
theorem baN_succ {k : Nat} (hk : k < ops.size) : baN T E Γ lazy ops st0 (k + 1) = baN T E Γ lazy ops st0 k + (ndN T E Γ lazy ops st0 k).out.news.length := by
  unfold baN
  rw [stN_succ hk]
  rfl
theorem baN_mono {j k : Nat} (h : j ≤ k) (hk : k ≤ ops.size) : baN T E Γ lazy ops st0 j ≤ baN T E Γ lazy ops st0 k := by
  induction k with
  | zero => rw [show j = 0 by omega]; exact Nat.le_refl _
  | succ k ih =>
    rcases Nat.lt_or_ge k j with h1 | h1
    · rw [show j = k + 1 by omega]; exact Nat.le_refl _
    · have := ih h1 (by omega)
      rw [baN_succ (by omega)]
      omega

theorem opsK_run {K : St → List (Nat × List Nat × List Nat) → Prop} : ∀ (m k : Nat), k + m = ops.size → opsK T E Γ lazy ops (ops.toList.drop k) (stN T E Γ lazy ops st0 k) (accN T E Γ lazy ops st0 k) K →
    (∀ q, k ≤ q → q < ops.size → (ndN T E Γ lazy ops st0 q).side) ∧ K (stN T E Γ lazy ops st0 ops.size) (accN T E Γ lazy ops st0 ops.size)
  | 0, k, hk, h => by
    rw [List.drop_of_length_le (by simp; omega)] at h
    have : k = ops.size := by omega
    subst this
    exact ⟨fun q h1 h2 => by omega, h⟩
  | m + 1, k, hk, h => by
    have hlt : k < ops.size := by omega
    rw [List.drop_eq_getElem_cons (by simpa using hlt)] at h
    simp only [opsK, Array.getElem_toList] at h
    have e1 : ndN T E Γ lazy ops st0 k = ndAt T E Γ lazy ops (stN T E Γ lazy ops st0 k) ops[k] := by
      simp only [ndN, Array.getElem?_eq_getElem hlt]
    obtain ⟨h1, h2⟩ := h
    have h3 := opsK_run (K := K) m (k + 1) (by omega) (by
      rw [stN_succ hlt, e1]
      simp only [accN]
      rw [e1]
      rw [accN_len] at h2
      exact h2)
    refine ⟨fun q hq hq2 => ?_, h3.2⟩
    rcases Nat.lt_or_ge k q with h4 | h4
    · exact h3.1 q h4 hq2
    · rw [show q = k by omega, e1]
      exact h1

/-- Slots, memory: what some of the operations leave. -/
def slotsOf (T : Tab) (E : EqTab) (Γ : Gam) (lazy : Bool) (ops : Array Oper) (st0 : St) (inS : Nat → Bool) : Nat → Slots
  | 0 => st0.S.get
  | k + 1 => if inS k then patchS (slotsOf T E Γ lazy ops st0 inS k) ((ops[k]?).bind (·.dst)) (ndN T E Γ lazy ops st0 k) else slotsOf T E Γ lazy ops st0 inS k
def memOf (T : Tab) (E : EqTab) (Γ : Gam) (lazy : Bool) (ops : Array Oper) (st0 : St) (inS : Nat → Bool) : Nat → Mem
  | 0 => lget st0.M
  | k + 1 => if inS k then patchM (memOf T E Γ lazy ops st0 inS k) (baN T E Γ lazy ops st0 k) (ndN T E Γ lazy ops st0 k) else memOf T E Γ lazy ops st0 inS k

theorem slots_all {inS : Nat → Bool} : ∀ {k : Nat}, k ≤ ops.size → (∀ p, p < k → inS p = true) → slotsOf T E Γ lazy ops st0 inS k = (stN T E Γ lazy ops st0 k).S.get
  | 0, _, _ => rfl
  | k + 1, hk, h => by
    simp only [slotsOf, h k (by omega), if_true]
    rw [slots_all (k := k) (by omega) fun p hp => h p (by omega), stN_succ (by omega)]
    simp only [St.step, setSt_get, Array.getElem?_eq_getElem (show k < ops.size by omega), Option.bind_some]
theorem mem_all {inS : Nat → Bool} : ∀ {k : Nat}, k ≤ ops.size → (∀ p, p < k → inS p = true) → memOf T E Γ lazy ops st0 inS k = lget (stN T E Γ lazy ops st0 k).M
  | 0, _, _ => rfl
  | k + 1, hk, h => by
    simp only [memOf, h k (by omega), if_true]
    rw [mem_all (k := k) (by omega) fun p hp => h p (by omega), stN_succ (by omega), St.step_mem]
    rfl

theorem slots_agree {t : Tmp} {inS inS' : Nat → Bool} : ∀ (k : Nat), (∀ p, p < k → (ops[p]?).bind (·.dst) = some t → inS p = inS' p) → slotsOf T E Γ lazy ops st0 inS k t = slotsOf T E Γ lazy ops st0 inS' k t
  | 0, _ => rfl
  | k + 1, h => by
    have ih := slots_agree (t := t) (inS := inS) (inS' := inS') k fun p hp => h p (by omega)
    have off1 : ∀ (S : Slots) (nd : Nd), (ops[k]?).bind (·.dst) ≠ some t → patchS S ((ops[k]?).bind (·.dst)) nd t = S t := fun S nd hne => by
      unfold patchS
      rw [if_neg hne]
    simp only [slotsOf]
    by_cases hd : (ops[k]?).bind (·.dst) = some t
    · rw [h k (by omega) hd]
      split
      · unfold patchS
        rw [if_pos hd, if_pos hd]
      · exact ih
    · split <;> split
      · rw [off1 _ _ hd, off1 _ _ hd]; exact ih
      · rw [off1 _ _ hd]; exact ih
      · rw [off1 _ _ hd]; exact ih
      · exact ih
theorem mem_agree {i : Nat} {inS inS' : Nat → Bool} : ∀ (k : Nat), (∀ p, p < k → i ∈ ndWrites (baN T E Γ lazy ops st0 p) (ndN T E Γ lazy ops st0 p) → inS p = inS' p) → memOf T E Γ lazy ops st0 inS k i = memOf T E Γ lazy ops st0 inS' k i
  | 0, _ => rfl
  | k + 1, h => by
    have ih := mem_agree (i := i) (inS := inS) (inS' := inS') k fun p hp => h p (by omega)
    simp only [memOf]
    by_cases hd : i ∈ ndWrites (baN T E Γ lazy ops st0 k) (ndN T E Γ lazy ops st0 k)
    · rw [h k (by omega) hd]
      split
      · exact patchM_at ih
      · exact ih
    · split <;> split
      · rw [patchM_off hd, patchM_off hd]; exact ih
      · rw [patchM_off hd]; exact ih
      · rw [patchM_off hd]; exact ih
      · exact ih

/-- One more. -/
def ins (inS : Nat → Bool) (q : Nat) : Nat → Bool := fun p => inS p || p == q

theorem slots_ins {inS : Nat → Bool} {q : Nat} (hq : inS q = false) : ∀ (k : Nat), q < k → (∀ p, q < p → p < k → inS p = true → ∀ d, (ops[q]?).bind (·.dst) = some d → (ops[p]?).bind (·.dst) ≠ some d) →
    slotsOf T E Γ lazy ops st0 (ins inS q) k = patchS (slotsOf T E Γ lazy ops st0 inS k) ((ops[q]?).bind (·.dst)) (ndN T E Γ lazy ops st0 q)
  | 0, h, _ => by omega
  | k + 1, h, hc => by
    simp only [slotsOf]
    rcases Nat.lt_or_ge q k with h1 | h1
    · have ih := slots_ins (inS := inS) hq k h1 fun p hp hp2 => hc p hp (by omega)
      have hne : (k == q) = false := by simp; omega
      have he : ins inS q k = inS k := by simp [ins, hne]
      rw [he, ih]
      cases hk : inS k with
      | false => simp
      | true =>
        simp only [if_true]
        funext t
        unfold patchS
        by_cases ha : (ops[k]?).bind (·.dst) = some t <;> by_cases hb : (ops[q]?).bind (·.dst) = some t
        · exact (hc k h1 (by omega) hk t hb ha).elim
        · simp [ha, hb]
        · simp [ha, hb]
        · simp [ha, hb]
    · have hkq : k = q := by omega
      subst hkq
      have he : ins inS k k = true := by simp [ins]
      rw [he, hq]
      simp only [if_true, Bool.false_eq_true, if_false]
      congr 1
      funext t
      refine slots_agree k fun p hp _ => ?_
      have : (p == k) = false := by simp; omega
      simp [ins, this]
theorem mem_ins {inS : Nat → Bool} {q : Nat} (hq : inS q = false) : ∀ (k : Nat), q < k → (∀ p, q < p → p < k → inS p = true → ∀ i, i ∈ ndWrites (baN T E Γ lazy ops st0 q) (ndN T E Γ lazy ops st0 q) → i ∉ ndWrites (baN T E Γ lazy ops st0 p) (ndN T E Γ lazy ops st0 p)) →
    memOf T E Γ lazy ops st0 (ins inS q) k = patchM (memOf T E Γ lazy ops st0 inS k) (baN T E Γ lazy ops st0 q) (ndN T E Γ lazy ops st0 q)
  | 0, h, _ => by omega
  | k + 1, h, hc => by
    simp only [memOf]
    rcases Nat.lt_or_ge q k with h1 | h1
    · have ih := mem_ins (inS := inS) hq k h1 fun p hp hp2 => hc p hp (by omega)
      have hne : (k == q) = false := by simp; omega
      have he : ins inS q k = inS k := by simp [ins, hne]
      rw [he, ih]
      cases hk : inS k with
      | false => simp
      | true =>
        simp only [if_true]
        funext i
        by_cases ha : i ∈ ndWrites (baN T E Γ lazy ops st0 q) (ndN T E Γ lazy ops st0 q)
        · have hb := hc k h1 (by omega) hk i ha
          rw [patchM_off hb]
          exact patchM_at (patchM_off hb).symm
        · rw [patchM_off (M := patchM _ _ _) ha]
          exact patchM_at (patchM_off ha)
    · have hkq : k = q := by omega
      subst hkq
      have he : ins inS k k = true := by simp [ins]
      rw [he, hq]
      simp only [if_true, Bool.false_eq_true, if_false]
      congr 1
      funext i
      refine mem_agree k fun p hp _ => ?_
      have : (p == k) = false := by simp; omega
      simp [ins, this]

/-- Those before one. -/
def pre (q : Nat) : Nat → Bool := fun p => decide (p < q)
theorem slots_pre {q : Nat} : ∀ {k : Nat}, q ≤ k → k ≤ ops.size → slotsOf T E Γ lazy ops st0 (pre q) k = (stN T E Γ lazy ops st0 q).S.get
  | 0, h, hk => by rw [show q = 0 by omega]; rfl
  | k + 1, h, hk => by
    rcases Nat.lt_or_ge k q with h1 | h1
    · rw [show q = k + 1 by omega]
      exact slots_all hk fun p hp => by simp [pre]; omega
    · have : pre q k = false := by simp [pre]; omega
      simp only [slotsOf, this, Bool.false_eq_true, if_false]
      exact slots_pre h1 (by omega)
theorem mem_pre {q : Nat} : ∀ {k : Nat}, q ≤ k → k ≤ ops.size → memOf T E Γ lazy ops st0 (pre q) k = lget (stN T E Γ lazy ops st0 q).M
  | 0, h, hk => by rw [show q = 0 by omega]; rfl
  | k + 1, h, hk => by
    rcases Nat.lt_or_ge k q with h1 | h1
    · rw [show q = k + 1 by omega]
      exact mem_all hk fun p hp => by simp [pre]; omega
    · have : pre q k = false := by simp [pre]; omega
      simp only [memOf, this, Bool.false_eq_true, if_false]
      exact mem_pre h1 (by omega)
end
end Go.Proofs.YthgllnnlngihoaaGreat.Sx
end
section
set_option linter.unusedVariables false
set_option linter.unusedSimpArgs false
namespace Go.Proofs.YthgllnnlngihoaaGreat.Sx
open Go.RowKit

theorem getD_set (l : Array Bool) (q p : Nat) (hq : q < l.size) : (l.setIfInBounds q true).getD p false = (l.getD p false || p == q) := by
  rw [Array.getD_eq_getD_getElem?, Array.getD_eq_getD_getElem?]
  by_cases h : q = p
  · subst h
    simp [Array.getElem?_setIfInBounds, hq]
  · rw [Array.getElem?_setIfInBounds_ne h]
    have : (p == q) = false := by simp; omega
    simp [this]

section
variable {F : Fence} {n : Nat} {P : Program} {T : Tab} {E : EqTab} {Γ : Gam} {lazy : Bool} {X : Cx} {ops : Array Oper} {st0 : St}

structure Inv (T : Tab) (E : EqTab) (Γ : Gam) (lazy : Bool) (X : Cx) (ops : Array Oper) (st0 : St) (σ : Ren) (listed : Array Bool) (a : Act) (w : World) : Prop where
  len : listed.size = ops.size
  cl : ∀ q o, ops[q]? = some o → listed.getD q false = true → ∀ e ∈ o.after, Region.binds .any e = true → listed.getD e.on false = true
  slots : SlotsRel σ (slotsOf T E Γ lazy ops st0 (fun p => listed.getD p false) ops.size) a.tmps
  sim : Sim X.B X.O σ (memOf T E Γ lazy ops st0 (fun p => listed.getD p false) ops.size) w
  dom : ∀ i u, σ i = some u → i < baN T E Γ lazy ops st0 0 ∨ ∃ p, p < ops.size ∧ listed.getD p false = true ∧ baN T E Γ lazy ops st0 p ≤ i ∧ i < baN T E Γ lazy ops st0 (p + 1)
  pin : ∀ i u, X.π i = some u → σ i = some u
  size : a.tmps.size = X.nt
  defers : DefOk X.df σ a.defers

theorem accN_mem : ∀ k p, p < k → (p, ndWrites (baN T E Γ lazy ops st0 p) (ndN T E Γ lazy ops st0 p), ndReads (ndN T E Γ lazy ops st0 p)) ∈ accN T E Γ lazy ops st0 k
  | k + 1, p, h => by
    rcases Nat.lt_or_ge p k with h1 | h1
    · exact List.mem_cons_of_mem _ (accN_mem k p h1)
    · rw [show p = k by omega]; exact List.mem_cons_self ..

theorem memOk_pair {m : List Nat} (h : memOk m (accN T E Γ lazy ops st0 ops.size) = true) {q p : Nat} (hq : q < ops.size) (hp : p < ops.size) (hne : p ≠ q) (hb : ordB m p q = false) :
    meets (ndWrites (baN T E Γ lazy ops st0 p) (ndN T E Γ lazy ops st0 p)) (ndReads (ndN T E Γ lazy ops st0 q) ++ ndWrites (baN T E Γ lazy ops st0 q) (ndN T E Γ lazy ops st0 q)) = false := by
  have h1 := List.all_eq_true.1 h _ (accN_mem _ p hp)
  simp only [Bool.or_eq_true] at h1
  rcases h1 with h1 | h1
  · have he : ndWrites (baN T E Γ lazy ops st0 p) (ndN T E Γ lazy ops st0 p) = [] := List.isEmpty_iff.1 h1
    rw [he]; rfl
  · have h2 := List.all_eq_true.1 h1 _ (accN_mem _ q hq)
    have hpq : (p == q) = false := by simp [hne]
    simp only [hpq, hb, Bool.false_or, Bool.not_eq_true'] at h2
    exact h2

theorem memOk_at {m : List Nat} (h : memOk m (accN T E Γ lazy ops st0 ops.size) = true) {q p : Nat} (hq : q < ops.size) (hp : p < q) (hb : bit m q p = false) :
    meets (ndWrites (baN T E Γ lazy ops st0 q) (ndN T E Γ lazy ops st0 q)) (ndReads (ndN T E Γ lazy ops st0 p) ++ ndWrites (baN T E Γ lazy ops st0 p) (ndN T E Γ lazy ops st0 p)) = false ∧
    meets (ndWrites (baN T E Γ lazy ops st0 p) (ndN T E Γ lazy ops st0 p)) (ndReads (ndN T E Γ lazy ops st0 q) ++ ndWrites (baN T E Γ lazy ops st0 q) (ndN T E Γ lazy ops st0 q)) = false := by
  refine ⟨memOk_pair h (by omega) hq (by omega) ?_, memOk_pair h hq (by omega) (by omega) ?_⟩
  · unfold ordB; rw [if_neg (by omega)]; exact hb
  · unfold ordB; rw [if_pos hp]; exact hb

theorem slotOk_at {m : List Nat} (h : slotOk ops m = true) {q p : Nat} (hq : q < ops.size) (hp : p < q) (hb : bit m q p = false) : slotMeet ops ops[q] ops[p] = false ∧ slotMeet ops ops[p] ops[q] = false := by
  unfold slotOk at h
  have h1 := List.all_eq_true.1 (List.all_eq_true.1 h q (List.mem_range.2 hq)) p (List.mem_range.2 hp)
  rw [show ops[q]? = some ops[q] by simp [hq], show ops[p]? = some ops[p] by simp [show p < ops.size by omega]] at h1
  simp only [hb, Bool.false_or, Bool.and_eq_true, Bool.not_eq_true'] at h1
  exact h1

theorem any_go (hF : ∀ f, F.fn f) (hD : F.depth = none) (hT : TabOk P T) (hE : EqOk P E) (hΓ : GamOk F P Γ) {m : List Nat} (hm : maskOk ops m = true) (hsl : slotOk ops m = true) (hd : ops.all (dstOk X.nt) = true) (hall : ∀ q, q < ops.size → (ndN T E Γ lazy ops st0 q).side) (hme : memOk m (accN T E Γ lazy ops st0 ops.size) = true)
    {Q : Exit → Act → World → Prop} {w0 : World} (hQ : ∀ σ' a' w', At X σ' (stN T E Γ lazy ops st0 ops.size) a' w' → Keep X.B X.O w0 w' → Q .normal a' w') : ∀ (fuel : Nat) (listed : Array Bool) (σ : Ren) (a : Act) (w : World), listed.toList.count false ≤ fuel → Inv T E Γ lazy X ops st0 σ listed a w → Keep X.B X.O w0 w → wpAnyIn F n P .any ops Q fuel listed a w := by
  -- where all are listed
  have done : ∀ (listed : Array Bool) (σ : Ren) (a : Act) (w : World), Inv T E Γ lazy X ops st0 σ listed a w → Keep X.B X.O w0 w → Region.ready .any ops listed = [] → Q .normal a w := by
    intro listed σ a w hI hk hr
    have hl : ∀ p, p < ops.size → listed.getD p false = true := by
      intro p
      induction p using Nat.strongRecOn with
      | ind p ih =>
        intro hp
        cases hv : listed.getD p false with
        | true => rfl
        | false =>
          have : p ∈ Region.ready .any ops listed := mem_ready.2 ⟨by
            rw [Array.getD_eq_getD_getElem?] at hv ⊢
            rw [Array.getElem?_eq_getElem (by rw [hI.len]; exact hp)] at hv ⊢
            exact hv, ops[p], by simp [hp], fun e he hb => ih e.on (mask_back hm (q := p) (o := ops[p]) (by simp [hp]) he hb) (by have := mask_back hm (q := p) (o := ops[p]) (by simp [hp]) he hb; omega)⟩
          rw [hr] at this
          cases this
    refine hQ σ a w ⟨?_, ?_, ?_, hI.pin, hI.size, hI.defers⟩ hk
    · rw [← slots_all (inS := fun p => listed.getD p false) (Nat.le_refl _) hl]; exact hI.slots
    · rw [← mem_all (inS := fun p => listed.getD p false) (Nat.le_refl _) hl]; exact hI.sim
    · intro i u hu
      show i < baN T E Γ lazy ops st0 ops.size
      rcases hI.dom i u hu with h | ⟨p, hp, _, _, h⟩
      · exact Nat.lt_of_lt_of_le h (baN_mono (Nat.zero_le _) (Nat.le_refl _))
      · exact Nat.lt_of_lt_of_le h (baN_mono hp (Nat.le_refl _))
  intro fuel
  induction fuel with
  | zero =>
    intro listed σ a w hc hI hk
    have hr : Region.ready .any ops listed = [] := by
      cases hr : Region.ready .any ops listed with
      | nil => rfl
      | cons x r =>
        have hx : x ∈ Region.ready .any ops listed := by rw [hr]; simp
        have hv := (mem_ready.1 hx).1
        have : false ∈ listed.toList := by
          rw [Array.getD_eq_getD_getElem?] at hv
          cases hg : listed[x]? with
          | none => rw [hg] at hv; cases hv
          | some b =>
            rw [hg] at hv
            simp only [Option.getD_some] at hv
            subst hv
            exact Array.mem_toList_iff.2 (Array.mem_of_getElem? hg)
        have := List.count_pos_iff.2 this
        omega
    exact ⟨hr, done listed σ a w hI hk hr⟩
  | succ fuel ih =>
    intro listed σ a w hc hI hk
    refine ⟨done listed σ a w hI hk, fun q hq => ?_⟩
    obtain ⟨hv, o, ho, hed⟩ := mem_ready.1 hq
    have hqn : q < ops.size := (Array.getElem?_eq_some_iff.1 ho).1
    have hql : q < listed.size := by rw [hI.len]; exact hqn
    have hoq : ops[q] = o := by rw [Array.getElem?_eq_getElem hqn] at ho; exact Option.some.inj ho
    have hvq : listed[q]? = some false := by
      rw [Array.getD_eq_getD_getElem?, Array.getElem?_eq_getElem hql] at hv
      rw [Array.getElem?_eq_getElem hql]
      simpa using hv
    have hq0 : listed.getD q false = false := by rw [Array.getD_eq_getD_getElem?, hvq]; rfl
    -- who is in
    have hclq : ∀ q' o', ops[q']? = some o' → ins (fun p => listed.getD p false) q q' = true → ∀ e ∈ o'.after, Region.binds .any e = true → ins (fun p => listed.getD p false) q e.on = true := by
      intro q' o' ho' hin e he hb
      have hor : ∀ b c : Bool, b = true → (b || c) = true := fun b c h => by rw [h]; rfl
      by_cases hqq : q' = q
      · subst hqq
        rw [ho] at ho'
        cases ho'
        exact hor _ _ (hed e he hb)
      · have hne : (q' == q) = false := by simp [hqq]
        simp only [ins, hne, Bool.or_false] at hin
        exact hor _ _ (hI.cl q' o' ho' hin e he hb)
    have before : ∀ p, p < q → bit m q p = true → listed.getD p false = true := by
      intro p hp hb
      have := mask_down hm hclq q p hp hqn hb (by simp [ins])
      have hne : (p == q) = false := by simp; omega
      simpa [ins, hne] using this
    have behind : ∀ p, q < p → p < ops.size → bit m p q = true → listed.getD p false = false := by
      intro p hp hpn hb
      cases hv : listed.getD p false with
      | false => rfl
      | true =>
        have := mask_down hm hI.cl p q hp hpn hb hv
        rw [hq0] at this
        cases this
    have agree : ∀ (W : Nat → Prop) (hlt : ∀ p, p < q → W p → bit m q p = true) (hgt : ∀ p, q < p → p < ops.size → W p → bit m p q = true), ∀ p, p < ops.size → W p → listed.getD p false = pre q p := by
      intro W hlt hgt p hp hW
      rcases Nat.lt_trichotomy p q with h | h | h
      · rw [before p h (hlt p h hW)]; simp [pre, h]
      · subst h; rw [hq0]; simp [pre]
      · rw [behind p h hp (hgt p h hp hW)]; simp [pre]; omega
    -- what it looks at is as in the text's order
    have hslots : ∀ t ∈ usesOf ops o, slotsOf T E Γ lazy ops st0 (fun p => listed.getD p false) ops.size t = (stN T E Γ lazy ops st0 q).S.get t := by
      intro t ht
      rw [← slots_pre (q := q) (Nat.le_of_lt hqn) (Nat.le_refl _)]
      refine slots_agree _ fun p hp hdp => agree (fun p => (ops[p]?).bind (·.dst) = some t) ?_ ?_ p hp hdp
      · intro p hp hdp
        cases hb : bit m q p with
        | true => rfl
        | false =>
          have hs := (slotOk_at hsl hqn hp hb).2
          rw [Array.getElem?_eq_getElem (show p < ops.size by omega)] at hdp
          simp only [Option.bind_some] at hdp
          rw [hoq] at hs
          unfold slotMeet at hs
          simp only [hdp, Bool.or_eq_false_iff] at hs
          rw [List.contains_iff_mem.2 ht] at hs
          cases hs.1
      · intro p hp hpn hdp
        cases hb : bit m p q with
        | true => rfl
        | false =>
          have hs := (slotOk_at hsl hpn hp hb).1
          rw [Array.getElem?_eq_getElem hpn] at hdp
          simp only [Option.bind_some] at hdp
          rw [hoq] at hs
          unfold slotMeet at hs
          simp only [hdp, Bool.or_eq_false_iff] at hs
          rw [List.contains_iff_mem.2 ht] at hs
          cases hs.1
    have hmem : ∀ i ∈ (ndN T E Γ lazy ops st0 q).out.reads, memOf T E Γ lazy ops st0 (fun p => listed.getD p false) ops.size i = lget (stN T E Γ lazy ops st0 q).M i := by
      intro i hi
      rw [← mem_pre (q := q) (Nat.le_of_lt hqn) (Nat.le_refl _)]
      refine mem_agree _ fun p hp hdp => agree (fun p => i ∈ ndWrites (baN T E Γ lazy ops st0 p) (ndN T E Γ lazy ops st0 p)) ?_ ?_ p hp hdp
      · intro p hp hdp
        cases hb : bit m q p with
        | true => rfl
        | false => exact (meets_spec (memOk_at hme hqn hp hb).2 hdp (List.mem_append_left _ hi)).elim
      · intro p hp hpn hdp
        cases hb : bit m p q with
        | true => rfl
        | false => exact (meets_spec (memOk_at hme hpn hp hb).1 hdp (List.mem_append_left _ hi)).elim
    have hndq : ndN T E Γ lazy ops st0 q = ndAt T E Γ lazy ops (stN T E Γ lazy ops st0 q) o := by simp only [ndN, ho]
    have hside := hall q hqn
    have hgq : guardI ops (slotsOf T E Γ lazy ops st0 (fun p => listed.getD p false) ops.size) o = some (ndN T E Γ lazy ops st0 q).act := by
      rw [uses_guard hslots, hndq]
      refine nd_guard ?_
      rw [hndq] at hside
      exact hside
    refine nd_step (S := slotsOf T E Γ lazy ops st0 (fun p => listed.getD p false) ops.size) (M := memOf T E Γ lazy ops st0 (fun p => listed.getD p false) ops.size) (base := baN T E Γ lazy ops st0 q) (σ := σ) (lazy := lazy) (nd := ndN T E Γ lazy ops st0 q) hF hD hT hE hΓ hI.sim ho hI.slots ?_ (by rw [hndq] at hside ⊢; exact ndOf_noupd hside) hgq hside ?_ ?_ fun a' w' σ' h1 h2 h3 h4 h5 h6 h7 => ?_
    · intro ha
      refine ndOf_congr (fun f sp hf => (hΓ f sp hf).congr) (S := (stN T E Γ lazy ops st0 q).S.get) (M := lget (stN T E Γ lazy ops st0 q).M) (fun t ht => (hslots t ht).symm) hndq.symm hside ha hmem
    · intro d hdst
      have := Array.all_eq_true.1 hd q hqn
      rw [hoq] at this
      unfold dstOk at this
      rw [hdst] at this
      rw [hI.size]
      simpa using this
    · intro t ht
      cases hσ : σ (baN T E Γ lazy ops st0 q + t) with
      | none => rfl
      | some u =>
        have hsucc := baN_succ (T := T) (E := E) (Γ := Γ) (lazy := lazy) (st0 := st0) hqn
        rcases hI.dom _ u hσ with h | ⟨p, hp, hpl, h8, h9⟩
        · have := baN_mono (T := T) (E := E) (Γ := Γ) (lazy := lazy) (st0 := st0) (Nat.zero_le q) (Nat.le_of_lt hqn)
          omega
        · rcases Nat.lt_trichotomy p q with h | h | h
          · have := baN_mono (T := T) (E := E) (Γ := Γ) (lazy := lazy) (st0 := st0) (show p + 1 ≤ q by omega) (Nat.le_of_lt hqn)
            omega
          · subst h; rw [hq0] at hpl; cases hpl
          · have := baN_mono (T := T) (E := E) (Γ := Γ) (lazy := lazy) (st0 := st0) (show q + 1 ≤ p by omega) (Nat.le_of_lt hp)
            omega
    · have hins : (fun p => (listed.setIfInBounds q true).getD p false) = ins (fun p => listed.getD p false) q := by
        funext p
        exact getD_set listed q p hql
      refine ih (listed.setIfInBounds q true) σ' a' w' ?_ ⟨by simp [hI.len], ?_, ?_, ?_, ?_, fun i u hu => h5 _ _ (hI.pin i u hu), by rw [h1, hI.size], by rw [h2]; exact hI.defers.le h5⟩ (hk.trans h7)
      · have hcount : (listed.setIfInBounds q true).toList.count false + 1 = listed.toList.count false := by
          rw [Array.toList_setIfInBounds]
          have hql' : q < listed.toList.length := by simpa using hql
          have hlv : listed.toList[q] = false := by
            rw [Array.getElem?_eq_getElem hql] at hvq
            simpa using hvq
          have hpos : 0 < listed.toList.count false := List.count_pos_iff.2 (by rw [← hlv]; exact List.getElem_mem hql')
          rw [List.count_set hql', hlv]
          show List.count false listed.toList - 1 + 0 + 1 = _
          omega
        omega
      · intro q' o' ho' hin e he hb
        have e1 := congrFun hins q'
        have e2 := congrFun hins e.on
        try simp only at e1 e2
        rw [e1] at hin
        rw [e2]
        exact hclq q' o' ho' hin e he hb
      · rw [hins, slots_ins hq0 ops.size hqn ?_]
        · rw [ho]; exact h3
        · intro p hp hpn hpin d hdq hdp
          cases hb : bit m p q with
          | true => have := behind p hp hpn hb; rw [this] at hpin; cases hpin
          | false =>
            have hs := (slotOk_at hsl hpn hp hb).1
            rw [Array.getElem?_eq_getElem hpn] at hdp
            rw [Array.getElem?_eq_getElem hqn] at hdq
            simp only [Option.bind_some] at hdp hdq
            unfold slotMeet at hs
            simp only [hdp, hdq, Bool.or_eq_false_iff] at hs
            simp at hs
      · rw [hins, mem_ins hq0 ops.size hqn ?_]
        · exact h4
        · intro p hp hpn hpin i hi hi'
          cases hb : bit m p q with
          | true => have := behind p hp hpn hb; rw [this] at hpin; cases hpin
          | false => exact (meets_spec (memOk_at hme hpn hp hb).1 hi' (List.mem_append_right _ hi)).elim
      · intro i u hu
        rcases h6 i u hu with h | ⟨h8, h9⟩
        · rcases hI.dom i u h with h | ⟨p, hp, hpl, h8, h9⟩
          · exact .inl h
          · refine .inr ⟨p, hp, ?_, h8, h9⟩
            rw [getD_set listed q p hql, hpl]; rfl
        · refine .inr ⟨q, hqn, ?_, h8, ?_⟩
          · rw [getD_set listed q q hql]; simp
          · rw [baN_succ hqn]; exact h9
end
end Go.Proofs.YthgllnnlngihoaaGreat.Sx
end
section
set_option linter.unusedVariables false
set_option linter.unusedSimpArgs false
namespace Go.Proofs.YthgllnnlngihoaaGreat.Sx
open Go.RowKit

/-- What a call does, said by what must be shown for it: in a frame's matters, with arguments, a memory, a base; what is shown of what it leaves. -/
abbrev Pt := Cx → List IV → ML → Nat → (IV → ML → Nat → Prop) → Prop
/-- What stays the same in a proof about one program. pr: which regions are walked call by call; pt: what is then entered. -/
structure En where
  F : Unit → Fence
  P : Unit → Program
  T : Tab
  E : EqTab
  Γ : Gam
  lazy : Bool
  pr : Nat → Bool
  pt : Fn → Option Pt
/-- A call of a function; a round of a loop. -/
def Calling (F : Fence) (n : Nat) (P : Program) (fn : Fn) (vals : List Value) (w : World) (R : Ending → World → Prop) : Prop := match fn with
  | .func f => Enters P f ∧ CallsIn F n P f vals.toArray w R
  | .yield l => ∃ r : Loop, w.heap[l]? = some (.loop r) ∧ vals.length = r.params.size ∧ RoundIn F n P l r.fn ((r.params.zip vals.toArray).foldl (fun tmps (t, a) => tmps.setIfInBounds t a) r.tmps) r.assign r.body w R
  | _ => False
def PtMono (pt : Pt) : Prop := ∀ (X : Cx) args m base (K K' : IV → ML → Nat → Prop), (∀ v m b, K v m b → K' v m b) → pt X args m base K → pt X args m base K'
def PtOk (F : Fence) (P : Program) (fn : Fn) (pt : Pt) : Prop := PtMono pt ∧ ∀ (X : Cx) args m base K, pt X args m base K → ∀ (n : Nat) (σ : Ren) (w : World) (vals : List Value), Sim X.B X.O σ (lget m) w → (∀ i u, σ i = some u → i < base) → (∀ i u, X.π i = some u → σ i = some u) → All2 (IR σ) args vals →
  Calling F n P fn vals w fun
    | .returned v, w' => ∃ σ' m' base' r, K r m' base' ∧ Sim X.B X.O σ' (lget m') w' ∧ (∀ i u, σ' i = some u → i < base') ∧ (∀ i u, X.π i = some u → σ' i = some u) ∧ IR σ' r v ∧ Keep X.B X.O w w'
    | _, _ => False
structure En.Ok (e : En) : Prop where
  fn : ∀ f, (e.F ()).fn f
  depth : (e.F ()).depth = none
  tab : TabOk (e.P ()) e.T
  eq : EqOk (e.P ()) e.E
  gam : GamOk (e.F ()) (e.P ()) e.Γ
  mixed : (e.P ()).follows .mixedOrders = true
  pts : ∀ fn p, e.pt fn = some p → PtOk (e.F ()) (e.P ()) fn p

section
variable (e : En) (X : Cx)

/-- From a state on, code ends as is said. -/
def Tri (c : Code) (st : St) (K : Exit → St → Prop) : Prop := ∀ (n : Nat) (σ : Ren) (a : Act) (w : World), At X σ st a w →
  c.wpIn (e.F ()) n (e.P ()) (fun x a' w' => ∃ σ' st', K x st' ∧ At X σ' st' a' w' ∧ Keep X.B X.O w w') a w

/-- .. as a structure: `cbv` does not open it. -/
structure TriS (c : Code) (st : St) (K : Exit → St → Prop) : Prop where
  ok : Tri e X c st K
/-- One state says no more than another one. -/
def Le (st st' : St) : Prop := ∀ (σ : Ren) (a : Act) (w : World), At X σ st a w → ∃ σ', At X σ' st' a w

/-- The orders that a region leaves hurt none, as far as memory goes. -/
def ordersOk (ops : Array Oper) (draw : Bool) (acc : List (Nat × List Nat × List Nat)) : Prop := match draw with
  | false => True
  | true => match noWrites acc with
    | true => True
    | false => In fun _ => memOk (maskOf ops) acc = true
def regionK (ops : Array Oper) (draw : Bool) (st : St) (K : St → Prop) : Prop :=
  opsK e.T e.E e.Γ e.lazy ops ops.toList st [] fun st' acc => ordersOk ops draw acc ∧ K st'
/-- What the text alone shows: temporaries are there; the orders that a region leaves hurt none, as far as temporaries go. -/
def codeOk (nt : Nat) : Code → Bool
  | .region _ ops draw => ops.all (dstOk nt) && (!draw || (maskOk ops (maskOf ops) && slotOk ops (maskOf ops)))
  | .seq a b => codeOk nt a && codeOk nt b
  | .cond _ a b => codeOk nt a && codeOk nt b
  | .block _ a => codeOk nt a
  | .loop a => codeOk nt a
  | .scope a => codeOk nt a
  | _ => true
theorem ordersOk_mem {ops : Array Oper} {acc : List (Nat × List Nat × List Nat)} (h : ordersOk ops true acc) : memOk (maskOf ops) acc = true := by
  unfold ordersOk at h
  simp only at h
  split at h
  · rename_i hn
    refine List.all_eq_true.2 fun x hx => ?_
    have := List.all_eq_true.1 hn x hx
    rw [this]; rfl
  · exact h.ok

def cvNames : CV → List Nat
  | .ref i | .ptr i _ _ _ | .sub i _ _ _ | .cut i _ => [i]
  | _ => []
def clNames : List CV → List Nat
  | [] => []
  | c :: r => cvNames c ++ clNames r
def tvNames : TV → List Nat
  | .one x => cvNames x
  | .agg l => clNames l
def tlNames : List TV → List Nat
  | [] => []
  | c :: r => tvNames c ++ tlNames r
def ivNames : IV → List Nat
  | .one x => cvNames x
  | .agg l => clNames l
  | .tup l => tlNames l
def inL (pins : List Nat) : Nat → Bool
  | i => match pins with
    | [] => false
    | j :: r => Nat.beq i j || inL r i
def allIn (pins : List Nat) : List Nat → Bool
  | [] => true
  | i :: r => inL pins i && allIn pins r
/-- The temporaries that name pinned objects alone. -/
def keepS (pins : List Nat) (seen : List Nat) : SL → SL
  | [] => []
  | (t, x) :: r => match inL seen t with
    | true => keepS pins seen r
    | false => match allIn pins (ivNames x.2) with
      | true => (t, x) :: keepS pins (t :: seen) r
      | false => keepS pins (t :: seen) r
def setR (S : SL) (dst : Option Tmp) (x : BX × IV) : SL := match dst with
  | none => S
  | some d => S.set d x
def calleeP (M : Mem) : IV → List IV → Option (Fn × List IV)
  | .one (.c (.func fn ⟨[]⟩ ⟨[]⟩)), args => some (fn, args)
  | .one (.ref i), args => match M i with
    | some (.clo (.func f) first cap) => some (.func f, first.map .one ++ args ++ cap.map .one)
    | _ => none
  | _, _ => none
def ptOf (st : St) (o : Oper) : Option (Pt × List IV) := match o.op with
  | .call c => match c.callee with
    | .value f => match calleeP (lget st.M) (evS st.S.get f).2 (c.args.toList.map fun x => (evS st.S.get x).2) with
      | some (fn, args) => match e.pt fn with
        | some p => some (p, args)
        | none => none
      | none => none
    | _ => none
  | _ => none
def needsP (st : St) (o : Oper) : Prop := match o.op with
  | .call c => match c.callee with
    | .value f => needs (evS st.S.get) (f :: c.args.toList)
    | _ => False
  | _ => False
/-- A region whose calls are entered, one operation after the other. -/
def regionP (ops : Array Oper) : List Oper → St → (St → Prop) → Prop
  | [], st, K => K st
  | o :: r, st, K => match ptOf e st o with
    | none => (fun nd => nd.side ∧ regionP ops r (st.step o nd) K) (ndAt e.T e.E e.Γ e.lazy ops st o)
    | some (p, args) => (fun (yes no : Prop) => match guardI ops st.S.get o with
      | none => False
      | some (.lit true) => yes
      | some (.lit false) => no
      | some (.sy f) => (f () = true → yes) ∧ (f () = false → no))
        (needsP st o ∧ ∃ pins : List Nat, ∀ π : Ren, (∀ i u, π i = some u → inL pins i = true ∨ ∃ v, X.π i = some v) → (∀ i u, X.π i = some u → π i = some u) → p ⟨π, X.B, X.O, 0, none⟩ args st.M st.base fun v m b => (∀ i, X.df = some i → inL pins i = true) ∧ regionP ops r ⟨setR (keepS pins [] st.S) o.dst (.lit true, v), m, b⟩ K)
        (regionP ops r ⟨setR st.S o.dst (.lit false, .one (.b (.lit false))), st.M, st.base⟩ K)
/-- What must be shown of code. -/
def vc : Code → St → (Exit → St → Prop) → Prop
  | .skip, st, K => K .normal st
  | .label _, st, K => K .normal st
  | .exit id, st, K => K (.exit id) st
  | .goto l, st, K => K (.goto l) st
  | .ret, st, K => K .ret st
  | .region id ops draw, st, K => match e.pr id with
    | false => regionK e ops draw st (K .normal)
    | true => draw = false ∧ regionP e X ops ops.toList st (K .normal)
  | .seq a b, st, K => vc a st fun x st' => match x with
    | .normal => vc b st' K
    | x => K x st'
  | .cond c a b, st, K => match evS st.S.get c with
    | (p, .one (.b z)) => isLit p ∧ match z with
      | .lit true => vc a st K
      | .lit false => vc b st K
      | .sy f => (f () = true → vc a st K) ∧ (f () = false → vc b st K)
    | _ => False
  | .block id c, st, K => vc c st fun x st' => match x with
    | .exit id' => if id' = id then K .normal st' else K (.exit id') st'
    | x => K x st'
  | .loop c, st, K => ∃ (ι : Type) (I : ι → St) (μ : ι → Nat) (i0 : ι), Le X st (I i0) ∧ ∀ i, vc c (I i) fun x st' => match x with
    | .normal => ∃ j, Le X st' (I j) ∧ μ j < μ i
    | x => K x st'
  | .scope c, st, K => (In fun _ => e.F () = Fence.wide) ∧ vc c st fun x st' => match x with
    | .goto _ => False
    | x => K x st'
  | c, st, K => TriS e X c st K
end

section
variable {e : En} {X : Cx}
theorem inL_mem : ∀ {l : List Nat} {i : Nat}, inL l i = true → i ∈ l
  | j :: r, i, h => by
    simp only [inL, Bool.or_eq_true] at h
    rcases h with h | h
    · rw [Nat.eq_of_beq_eq_true h]; exact List.mem_cons_self ..
    · exact List.mem_cons_of_mem _ (inL_mem h)
  | [], _, h => by cases h
theorem allIn_mem {p : List Nat} : ∀ {l : List Nat}, allIn p l = true → ∀ i ∈ l, inL p i = true
  | j :: r, h, i, hi => by
    simp only [allIn, Bool.and_eq_true] at h
    rcases List.mem_cons.1 hi with e | hi
    · subst e; exact h.1
    · exact allIn_mem h.2 i hi
  | [], _, _, hi => by cases hi

/-- What names pinned objects alone stays as it is. -/
theorem CRel.pin {σ σ' : Ren} {c : CV} {v : Value} (h : ∀ i ∈ cvNames c, ∀ u, σ i = some u → σ' i = some u) (hc : CRel σ c v) : CRel σ' c v := by
  cases c with
  | c u => exact hc
  | i k x => exact hc
  | b x => exact hc
  | s f => exact hc
  | ref i => exact h i (by simp [cvNames]) _ hc
  | ptr i e j k => obtain ⟨hv, b, o, h1, h2⟩ := hc; exact ⟨hv, b, o, h i (by simp [cvNames]) _ h1, h2⟩
  | sub i s n k => obtain ⟨hv, A, c, h1, h2⟩ := hc; exact ⟨hv, A, c, h i (by simp [cvNames]) _ h1, h2⟩
  | cut i n => obtain ⟨a, L, c, h1, h2⟩ := hc; exact ⟨a, L, c, h i (by simp [cvNames]) _ h1, h2⟩
  | top => trivial
theorem CR.pin {σ σ' : Ren} {c : CV} {v : Value} (h : ∀ i ∈ cvNames c, ∀ u, σ i = some u → σ' i = some u) (hc : CR σ c v) : CR σ' c v := ⟨hc.1, hc.2.pin h⟩
theorem cells_pin {σ σ' : Ren} : ∀ {l : List CV} {vs : List Value}, (∀ i ∈ clNames l, ∀ u, σ i = some u → σ' i = some u) → All2 (CR σ) l vs → All2 (CR σ') l vs
  | [], [], _, _ => trivial
  | c :: r, v :: vs, h, k => ⟨k.1.pin fun i hi => h i (List.mem_append_left _ hi), cells_pin (fun i hi => h i (List.mem_append_right _ hi)) k.2⟩
  | [], _ :: _, _, k => k.elim
  | _ :: _, [], _, k => k.elim
theorem TR.pin {σ σ' : Ren} {c : TV} {v : Value} (h : ∀ i ∈ tvNames c, ∀ u, σ i = some u → σ' i = some u) (hc : TR σ c v) : TR σ' c v := by
  cases c with
  | one x => exact CR.pin h hc
  | agg l => obtain ⟨vs, rfl, ha⟩ := hc; exact ⟨vs, rfl, cells_pin h ha⟩
theorem tuple_pin {σ σ' : Ren} : ∀ {l : List TV} {vs : List Value}, (∀ i ∈ tlNames l, ∀ u, σ i = some u → σ' i = some u) → All2 (TR σ) l vs → All2 (TR σ') l vs
  | [], [], _, _ => trivial
  | c :: r, v :: vs, h, k => ⟨k.1.pin fun i hi => h i (List.mem_append_left _ hi), tuple_pin (fun i hi => h i (List.mem_append_right _ hi)) k.2⟩
  | [], _ :: _, _, k => k.elim
  | _ :: _, [], _, k => k.elim
theorem IR.pin {σ σ' : Ren} {c : IV} {v : Value} (h : ∀ i ∈ ivNames c, ∀ u, σ i = some u → σ' i = some u) (hc : IR σ c v) : IR σ' c v := by
  cases c with
  | one x => exact CR.pin h hc
  | agg l => obtain ⟨vs, rfl, ha⟩ := hc; exact ⟨vs, rfl, cells_pin h ha⟩
  | tup l => obtain ⟨vs, rfl, ha⟩ := hc; exact ⟨vs, rfl, tuple_pin h ha⟩

theorem keepS_get (pins : List Nat) : ∀ (S : SL) (seen : List Nat) (t : Tmp) (x : BX × IV), (keepS pins seen S).get t = some x → inL seen t = false ∧ S.get t = some x ∧ allIn pins (ivNames x.2) = true
  | [], seen, t, x, h => by cases h
  | (u, y) :: r, seen, t, x, h => by
    simp only [keepS] at h
    split at h
    · rename_i hs
      obtain ⟨h1, h2, h3⟩ := keepS_get pins r seen t x h
      refine ⟨h1, ?_, h3⟩
      have : u ≠ t := fun e => by subst e; rw [hs] at h1; cases h1
      simp only [SL.get, this, if_false]
      exact h2
    · rename_i hs
      have sub : ∀ {t'}, inL (u :: seen) t' = false → u ≠ t' ∧ inL seen t' = false := by
        intro t' hh
        simp only [inL, Bool.or_eq_false_iff] at hh
        exact ⟨fun e => by subst e; simp at hh, hh.2⟩
      split at h
      · rename_i ho
        simp only [SL.get] at h
        split at h
        · rename_i e
          subst e
          cases h
          exact ⟨hs, by simp [SL.get], ho⟩
        · rename_i hne
          obtain ⟨h1, h2, h3⟩ := keepS_get pins r (u :: seen) t x h
          refine ⟨(sub h1).2, ?_, h3⟩
          simp only [SL.get, hne, if_false]
          exact h2
      · obtain ⟨h1, h2, h3⟩ := keepS_get pins r (u :: seen) t x h
        obtain ⟨k1, k2⟩ := sub h1
        refine ⟨k2, ?_, h3⟩
        simp only [SL.get, k1, if_false]
        exact h2
theorem keepS_rel {pins : List Nat} {σ σ' : Ren} {S : SL} {tmps : Array Value} (h : SlotsRel σ S.get tmps) (hp : ∀ i, inL pins i = true → ∀ u, σ i = some u → σ' i = some u) : SlotsRel σ' (keepS pins [] S).get tmps := by
  intro t
  cases hg : (keepS pins [] S).get t with
  | none => trivial
  | some x =>
    obtain ⟨_, h2, h3⟩ := keepS_get pins S [] t x hg
    have hr := h t
    rw [h2] at hr
    obtain ⟨p, iv⟩ := x
    exact ⟨fun hh => (hr.1 hh).pin fun i hi u hu => hp i (allIn_mem h3 i hi) u hu, hr.2⟩
theorem setR_rel {σ : Ren} {S : SL} {a : Act} (h : SlotsRel σ S.get a.tmps) {dst : Option Tmp} (hb : ∀ d, dst = some d → d < a.tmps.size) {x : BX × IV} {v : Value} (hv : SlotRel σ (some x) v) : SlotsRel σ (setR S dst x).get (a.put dst v).tmps := by
  cases dst with
  | none => exact h
  | some d =>
    intro t
    simp only [setR, SL.get_set]
    have hlt := hb d rfl
    by_cases e : d = t
    · subst e
      simp only [if_true, Act.put]
      rw [Array.getD_eq_getD_getElem?]
      simp only [Array.getElem?_setIfInBounds, if_true, hlt, Option.getD_some]
      exact hv
    · simp only [e, if_false, Act.put]
      rw [Array.getD_eq_getD_getElem?, Array.getElem?_setIfInBounds_ne e, ← Array.getD_eq_getD_getElem?]
      exact h t

theorem one_map {σ : Ren} : ∀ (l : List CV) (vs : List Value), All2 (CR σ) l vs → All2 (IR σ) (l.map .one) vs
  | [], [], _ => trivial
  | _ :: _, _ :: _, h => ⟨h.1, one_map _ _ h.2⟩
  | [], _ :: _, h => h.elim
  | _ :: _, [], h => h.elim

/-- What a call through a value leads to. -/
theorem callee_run {σ : Ren} {B : Nat} {O : Nat → Prop} {M : Mem} {w : World} (hS : Sim B O σ M w) {x : IV} {u : Value} (hx : IR σ x u) {args : List IV} {vals : List Value} (ha : All2 (IR σ) args vals) {fn : Fn} {avs : List IV} (hc : calleeP M x args = some (fn, avs)) :
    ∃ us first cap : List Value, All2 (IR σ) avs us ∧ u = .func fn first.toArray cap.toArray ∧ us = first ++ vals ++ cap ∧ (∀ l, fn = .yield l → first = [] ∧ cap = []) := by
  unfold calleeP at hc
  split at hc
  · rename_i g
    cases hc
    exact ⟨vals, [], [], ha, hx.2, by simp, fun _ _ => ⟨rfl, rfl⟩⟩
  · rename_i i
    split at hc
    · rename_i g first cap hM
      cases hc
      obtain ⟨ob, hM', hr⟩ := hS.ob i _ hx.2
      rw [hM] at hM'
      cases hM'
      obtain ⟨f', c', hfv, h1, h2⟩ := hr
      exact ⟨f' ++ vals ++ c', f', c', ((one_map _ _ h1).append ha).append (one_map _ _ h2), hfv, rfl, fun l e => by cases e⟩
    · cases hc
  · cases hc

theorem regionP_ok (he : e.Ok) {ops : Array Oper} {Q : Exit → Act → World → Prop} {n : Nat} (hd : ops.all (dstOk X.nt) = true) : ∀ (m k : Nat), k + m = ops.size → ∀ {σ : Ren} {st : St} {a : Act} {w : World} {K}, At X σ st a w → regionP e X ops (ops.toList.drop k) st K →
    (∀ σ' st' a' w', K st' → At X σ' st' a' w' → Keep X.B X.O w w' → Q .normal a' w') → wpOpsIn (e.F ()) n (e.P ()) ops Q (List.range' k m) a w
  | 0, k, hk, σ, st, a, w, K, h, hK, hQ => by
    rw [List.drop_of_length_le (by simp; omega)] at hK
    exact hQ σ st a w hK h (Keep.refl _ _ _)
  | m + 1, k, hk, σ, st, a, w, K, h, hK, hQ => by
    have hlt : k < ops.size := by omega
    rw [List.drop_eq_getElem_cons (by simpa using hlt)] at hK
    simp only [regionP, Array.getElem_toList] at hK
    have hdk : dstOk X.nt ops[k] = true := Array.all_eq_true.1 hd k hlt
    have hops : ops[k]? = some ops[k] := by simp [hlt]
    rw [List.range'_succ]
    split at hK
    · rw [wpOpsIn_cons]
      refine h.step (lazy := e.lazy) (i := k) (o := ops[k]) he.fn he.depth he.tab he.eq he.gam hops hK.1 hdk fun σ' a' w' h' hk' => ?_
      exact regionP_ok he hd m (k + 1) (by omega) h' hK.2 fun σ2 st2 a2 w2 h1 h2 h3 => hQ σ2 st2 a2 w2 h1 h2 (hk'.trans h3)
    · rename_i p args hp
      have hdst : ∀ d, ops[k].dst = some d → d < a.tmps.size := by
        intro d hd'
        unfold dstOk at hdk
        rw [hd'] at hdk
        rw [h.size]
        simpa using hdk
      have split2 : (∃ act, guardI ops st.S.get ops[k] = some act ∧ act.val = true ∧ (needsP st ops[k] ∧ ∃ pins : List Nat, ∀ π : Ren, (∀ i u, π i = some u → inL pins i = true ∨ ∃ v, X.π i = some v) → (∀ i u, X.π i = some u → π i = some u) → p ⟨π, X.B, X.O, 0, none⟩ args st.M st.base fun v m b => (∀ i, X.df = some i → inL pins i = true) ∧ regionP e X ops (ops.toList.drop (k + 1)) ⟨setR (keepS pins [] st.S) ops[k].dst (.lit true, v), m, b⟩ K)) ∨
          (∃ act, guardI ops st.S.get ops[k] = some act ∧ act.val = false ∧ regionP e X ops (ops.toList.drop (k + 1)) ⟨setR st.S ops[k].dst (.lit false, .one (.b (.lit false))), st.M, st.base⟩ K) := by
        cases hg : guardI ops st.S.get ops[k] with
        | none => rw [hg] at hK; exact hK.elim
        | some act =>
          rw [hg] at hK
          cases act with
          | lit b => cases b with
            | true => exact .inl ⟨_, rfl, rfl, hK⟩
            | false => exact .inr ⟨_, rfl, rfl, hK⟩
          | sy f =>
            have hK : (f () = true → _) ∧ (f () = false → _) := hK
            cases hf : f () with
            | true => exact .inl ⟨_, rfl, hf, hK.1 hf⟩
            | false => exact .inr ⟨_, rfl, hf, hK.2 hf⟩
      rcases split2 with ⟨act, hg, hact, hK⟩ | ⟨act, hg, hact, hK⟩
      · obtain ⟨hneed, pins, hK⟩ := hK
        simp only [wpOpsIn, hops]
        rw [guardI_ok h.slots hg, hact, if_pos rfl]
        unfold ptOf at hp
        split at hp
        · rename_i c hop
          split at hp
          · rename_i f hcf
            split at hp
            · rename_i fn avs hcal
              split at hp
              · rename_i p' hpt
                cases hp
                simp only [needsP, hop, hcf] at hneed
                have hev : ∀ x ∈ f :: c.args.toList, IR σ (evS st.S.get x).2 (a.eval x) := fun x hx => evS_ok h.slots x (needs_mem hneed x hx)
                have hav : All2 (IR σ) (c.args.toList.map fun x => (evS st.S.get x).2) (c.args.toList.map a.eval) := by
                  have : ∀ l : List Operand, (∀ x ∈ l, IR σ (evS st.S.get x).2 (a.eval x)) → All2 (IR σ) (l.map fun x => (evS st.S.get x).2) (l.map a.eval) := by
                    intro l
                    induction l with
                    | nil => intro _; trivial
                    | cons x r ih => intro h; exact ⟨h x (by simp), ih fun y hy => h y (by simp [hy])⟩
                  exact this _ fun x hx => hev x (by simp [hx])
                obtain ⟨us, first, cap, hus, hfv, huse, hyl⟩ := callee_run h.sim (hev f (by simp)) hav hcal
                have hdf : ∀ c', ops[k].op ≠ .defer c' := fun c' hc' => by rw [hop] at hc'; cases hc'
                have hl0 : c.args.map a.eval = (c.args.toList.map a.eval).toArray := Array.ext' (Array.toList_map)
                let π : Ren := fun i => if inL pins i = true then σ i else X.π i
                have hπσ : ∀ i u, π i = some u → σ i = some u := by
                  intro i u hu
                  simp only [π] at hu
                  split at hu
                  · exact hu
                  · exact h.pin i u hu
                have hXπ : ∀ i u, X.π i = some u → π i = some u := by
                  intro i u hu
                  simp only [π]
                  split
                  · exact h.pin i u hu
                  · exact hu
                have hpp := hK π (fun i u hu => by
                  simp only [π] at hu
                  split at hu
                  · rename_i hh; exact .inl hh
                  · exact .inr ⟨u, hu⟩) hXπ
                have hcall := (he.pts fn p hpt).2 _ _ _ _ _ hpp (n - 1) σ w us h.sim h.dom hπσ hus
                have after : ∀ (v : Value) (w' : World), (∃ σ' m' base' r, ((∀ i, X.df = some i → inL pins i = true) ∧ regionP e X ops (List.drop (k + 1) ops.toList) ⟨setR (keepS pins [] st.S) ops[k].dst (.lit true, r), m', base'⟩ K) ∧ Sim X.B X.O σ' (lget m') w' ∧ (∀ i u, σ' i = some u → i < base') ∧ (∀ i u, π i = some u → σ' i = some u) ∧ IR σ' r v ∧ Keep X.B X.O w w') → wpOpsIn (e.F ()) n (e.P ()) ops Q (List.range' (k + 1) m) (a.put ops[k].dst v) w' := by
                  rintro v w' ⟨σ', m', base', r, ⟨hmk, hrest⟩, hsim, hdom, hpin, hir, hkeep⟩
                  have hpin' : ∀ i, inL pins i = true → ∀ u, σ i = some u → σ' i = some u := fun i hi u hu => hpin i u (by simp only [π, hi, if_true]; exact hu)
                  refine regionP_ok he hd m (k + 1) (by omega) (σ := σ') (st := ⟨setR (keepS pins [] st.S) ops[k].dst (.lit true, r), m', base'⟩) ⟨?_, hsim, hdom, fun i u hu => hpin i u (hXπ i u hu), by rw [Act.put_size]; exact h.size, ?_⟩ hrest fun σ2 st2 a2 w2 h1 h2 h3 => hQ σ2 st2 a2 w2 h1 h2 (hkeep.trans h3)
                  · exact setR_rel (keepS_rel h.slots hpin') hdst ⟨fun _ => hir, fun hh => by cases hh⟩
                  · rw [Act.put_defers']
                    rcases h.defers with h1 | ⟨i, rr, h1, h2, h3⟩
                    · exact .inl h1
                    · exact .inr ⟨i, rr, h1, hpin' i (hmk i h1) _ h2, h3⟩
                refine ⟨fun f _ => he.fn f, ?_⟩
                rw [Oper.semAt_eq _ _ _ hdf]
                have hffv : a.eval f = .func fn first.toArray cap.toArray := hfv
                cases fn with
                | func g =>
                  obtain ⟨⟨gf, gc, hf1, hf2, hf3⟩, hci⟩ := hcall
                  have hf4 : ¬ gf.name = "runtime.NumGoroutine" := by simpa using hf3
                  have hrun : (execOp a.eval ops[k]).run (e.P ()) w = .ok (.enter g us.toArray) w := by
                    simp only [execOp, hop, resolve, hcf, hl0, huse]
                    generalize c.args.toList.map a.eval = la
                    simp [hffv, Deferred.ofValue, invoke, callFunc, hf1, hf2, hf4]
                  rw [hrun]
                  refine ⟨fun hd => by simp [he.depth] at hd, hci.mono fun en w' hen => ?_⟩
                  cases en with
                  | returned v => exact after v w' hen
                  | panicked c => exact hen.elim
                  | outgrown => exact hen.elim
                | yield l =>
                  obtain ⟨r, hr1, hr2, hround⟩ := hcall
                  have hy := run_yield (P := (e.P ())) (args := us.toArray) hr1 (by simpa using hr2)
                  obtain ⟨hfn, hcn⟩ := hyl l rfl
                  have hrun : (execOp a.eval ops[k]).run (e.P ()) w = .ok (.round l r.fn ((r.params.zip us.toArray).foldl (fun tmps (t, a) => tmps.setIfInBounds t a) r.tmps) r.assign r.body) w := by
                    rw [← hy]
                    simp only [execOp, hop, resolve, hcf, hl0, huse]
                    generalize c.args.toList.map a.eval = la
                    subst hcn hfn
                    simp [hffv, Deferred.ofValue, invoke]
                  rw [hrun]
                  refine ⟨fun hd => by simp [he.depth] at hd, hround.mono fun en w' hen => ?_⟩
                  cases en with
                  | returned v => exact after v w' hen
                  | panicked c => exact hen.elim
                  | outgrown => exact hen.elim
                | _ => exact hcall.elim
              · cases hp
            · cases hp
          · cases hp
        · cases hp
      · simp only [wpOpsIn, hops]
        rw [guardI_ok h.slots hg, hact, if_neg (by simp)]
        refine ⟨fun f _ => he.fn f, regionP_ok he hd m (k + 1) (by omega) (σ := σ) (st := ⟨setR st.S ops[k].dst (.lit false, .one (.b (.lit false))), st.M, st.base⟩) ⟨?_, h.sim, h.dom, h.pin, by rw [Act.put_size]; exact h.size, by rw [Act.put_defers']; exact h.defers⟩ hK hQ⟩
        exact setR_rel h.slots hdst (show SlotRel σ (some (.lit false, .one (.b (.lit false)))) undef from ⟨fun hh => (by cases hh), fun _ => rfl⟩)
end

section
variable {e : En} {X : Cx}

theorem Keep.drew' {B : Nat} {O : Nat → Prop} {w : World} : Keep B O w { w with drawn := w.drawn + 1 } := ⟨rfl, rfl, rfl, Nat.le_refl _, fun _ _ _ => rfl⟩

theorem least_nat {p : Nat → Prop} : ∀ n, p n → ∃ m, p m ∧ ∀ k, p k → m ≤ k := by
  intro n
  induction n using Nat.strongRecOn with
  | ind n ih =>
    intro hn
    by_cases h : ∃ k, k < n ∧ p k
    · obtain ⟨k, hk, hpk⟩ := h
      exact ih k hk hpk
    · exact ⟨n, hn, fun k hk => Nat.le_of_not_lt fun hlt => h ⟨k, hlt, hk⟩⟩

theorem region_tri (he : e.Ok) {id : Nat} {ops : Array Oper} {draw : Bool} {st : St} {K : Exit → St → Prop} (hst : codeOk X.nt (.region id ops draw) = true) (h : vc e X (.region id ops draw) st K) : Tri e X (.region id ops draw) st K := by
  intro n σ a w hat
  simp only [vc] at h
  split at h
  case h_2 =>
    obtain ⟨rfl, h⟩ := h
    refine wpIn_region ?_
    have := regionP_ok (n := n) (Q := fun x a' w' => ∃ σ' st', K x st' ∧ At X σ' st' a' w' ∧ Keep X.B X.O w w') he (by
      unfold codeOk at hst
      rw [Bool.and_eq_true] at hst
      exact hst.1) ops.size 0 (by omega) hat h fun σ' st' a' w' h1 h2 h3 => ⟨σ', st', h1, h2, h3⟩
    rw [List.range_eq_range']
    exact this
  have hops := h
  unfold regionK at hops
  unfold codeOk at hst
  rw [Bool.and_eq_true] at hst
  obtain ⟨hd, hdr⟩ := hst
  cases draw with
  | false =>
    refine wpIn_region ?_
    have := ops_seq (F := (e.F ())) (n := n) (P := (e.P ())) (T := e.T) (E := e.E) (Γ := e.Γ) (lazy := e.lazy) (X := X) (Q := fun x a' w' => ∃ σ' st', K x st' ∧ At X σ' st' a' w' ∧ Keep X.B X.O w w') he.fn he.depth he.tab he.eq he.gam hd ops.size 0 (by omega) hat (acc := []) (K := fun st' acc => ordersOk ops false acc ∧ K .normal st') hops fun σ' st' a' w' acc' h1 h2 h3 => ⟨σ', st', h1.2, h2, h3⟩
    rw [List.range_eq_range']
    exact this
  | true =>
    simp only [Bool.not_true, Bool.false_or, Bool.and_eq_true] at hdr
    refine wpIn_region_any he.mixed ?_
    have hrun := opsK_run (T := e.T) (E := e.E) (Γ := e.Γ) (lazy := e.lazy) (st0 := st) (ops := ops) (K := fun st' acc => ordersOk ops true acc ∧ K .normal st') ops.size 0 (by omega) hops
    obtain ⟨hall, hme, hK⟩ := hrun
    have hme := ordersOk_mem hme
    have hat' : At X σ st a { w with drawn := w.drawn + 1 } := ⟨hat.slots, hat.sim.drew, hat.dom, hat.pin, hat.size, hat.defers⟩
    have hrep : ∀ p, (Array.replicate ops.size false).getD p false = false := by
      intro p
      rw [Array.getD_eq_getD_getElem?, Array.getElem?_replicate]
      split <;> rfl
    have hsl : ∀ k, slotsOf e.T e.E e.Γ e.lazy ops st (fun p => (Array.replicate ops.size false).getD p false) k = st.S.get := by
      intro k
      induction k with
      | zero => rfl
      | succ k ih => rw [slotsOf, hrep, if_neg Bool.false_ne_true]; exact ih
    have hml : ∀ k, memOf e.T e.E e.Γ e.lazy ops st (fun p => (Array.replicate ops.size false).getD p false) k = lget st.M := by
      intro k
      induction k with
      | zero => rfl
      | succ k ih => rw [memOf, hrep, if_neg Bool.false_ne_true]; exact ih
    refine any_go (F := (e.F ())) (P := (e.P ())) (T := e.T) (E := e.E) (Γ := e.Γ) (lazy := e.lazy) (X := X) (st0 := st) he.fn he.depth he.tab he.eq he.gam hdr.1 hdr.2 hd (fun q hq => hall q (Nat.zero_le _) hq) hme (w0 := w) (fun σ' a' w' h1 h2 => ⟨σ', _, hK, h1, h2⟩) ops.size (Array.replicate ops.size false) σ a _ (by simp) ⟨by simp, fun q o ho hin => ?_, ?_, ?_, fun i u hu => .inl (hat.dom i u hu), hat.pin, hat.size, hat.defers⟩ Keep.drew'
    · rw [hrep] at hin; cases hin
    · rw [hsl]; exact hat.slots
    · rw [hml]; exact hat.sim.drew

theorem vc_tri (he : e.Ok) : ∀ (c : Code) {st : St} {K : Exit → St → Prop}, codeOk X.nt c = true → vc e X c st K → Tri e X c st K := by
  intro c
  induction c with
  | skip => intro st K hck h n σ a w hat; exact wpIn_skip ⟨σ, st, h, hat, Keep.refl _ _ _⟩
  | label l => intro st K hck h n σ a w hat; exact wpIn_label ⟨σ, st, h, hat, Keep.refl _ _ _⟩
  | exit id => intro st K hck h n σ a w hat; exact wpIn_exit ⟨σ, st, h, hat, Keep.refl _ _ _⟩
  | goto l => intro st K hck h n σ a w hat; exact wpIn_goto ⟨σ, st, h, hat, Keep.refl _ _ _⟩
  | ret => intro st K hck h n σ a w hat; exact wpIn_ret ⟨σ, st, h, hat, Keep.refl _ _ _⟩
  | region id ops draw => intro st K hck h; exact region_tri he hck h
  | seq x y ihx ihy =>
    intro st K hck h n σ a w hat
    simp only [codeOk, Bool.and_eq_true] at hck
    refine wpIn_seq (wpIn_mono (ihx hck.1 h n σ a w hat) fun ex a' w' hq => ?_)
    obtain ⟨σ', st', hK, hat', hk⟩ := hq
    cases ex with
    | normal => exact wpIn_mono (ihy hck.2 hK n σ' a' w' hat') fun ex a2 w2 hq => let ⟨σ2, st2, h1, h2, h3⟩ := hq; ⟨σ2, st2, h1, h2, hk.trans h3⟩
    | _ => exact ⟨σ', st', hK, hat', hk⟩
  | cond c x y ihx ihy =>
    intro st K hck h n σ a w hat
    simp only [codeOk, Bool.and_eq_true] at hck
    simp only [vc] at h
    split at h
    · rename_i p z hev
      obtain ⟨hp, h1⟩ := h
      have hc : a.eval c = .bool z.val := by
        have := evS_ok hat.slots c (by rw [hev]; exact isLit_iff hp)
        rw [hev] at this
        exact this.2
      have hsp : (z.val = true → vc e X x st K) ∧ (z.val = false → vc e X y st K) := by
        cases z with
        | lit b => cases b with
          | true => exact ⟨fun _ => h1, fun hh => by simp [BX.val] at hh⟩
          | false => exact ⟨fun hh => by simp [BX.val] at hh, fun _ => h1⟩
        | sy f => exact h1
      refine wpIn_cond_split hc (fun hz => ?_) fun hz => ?_
      · exact ihx hck.1 (hsp.1 hz) n σ a w hat
      · exact ihy hck.2 (hsp.2 hz) n σ a w hat
    · exact h.elim
  | block id c ih =>
    intro st K hck h n σ a w hat
    refine wpIn_block (wpIn_mono (ih hck h n σ a w hat) fun ex a' w' hq => ?_)
    obtain ⟨σ', st', hK, hat', hk⟩ := hq
    cases ex with
    | exit id' =>
      simp only [Exit.inBlock]
      split
      · rename_i e1; simp only [e1, if_true] at hK; exact ⟨σ', st', hK, hat', hk⟩
      · rename_i e1; simp only [e1, if_false] at hK; exact ⟨σ', st', hK, hat', hk⟩
    | _ => exact ⟨σ', st', hK, hat', hk⟩
  | loop c ih =>
    intro st K hck h n σ a w hat
    obtain ⟨ι, I, μ, i0, hle, hround⟩ := h
    obtain ⟨σ0, hat0⟩ := hle σ a w hat
    -- the least number that a state bears
    have hleast' : ∃ μ' : Act → World → Nat, ∀ a w, (∃ σ i, At X σ (I i) a w) → (∃ σ i, At X σ (I i) a w ∧ μ i = μ' a w) ∧ ∀ k, (∃ σ i, At X σ (I i) a w ∧ μ i = k) → μ' a w ≤ k := by
      have hl : ∀ a w, ∃ m, (∃ σ i, At X σ (I i) a w) → ((∃ σ i, At X σ (I i) a w ∧ μ i = m) ∧ ∀ k, (∃ σ i, At X σ (I i) a w ∧ μ i = k) → m ≤ k) := by
        intro a w
        by_cases hex : ∃ m σ i, At X σ (I i) a w ∧ μ i = m
        · obtain ⟨m, hm⟩ := hex
          obtain ⟨m', h1, h2⟩ := least_nat (p := fun m => ∃ σ i, At X σ (I i) a w ∧ μ i = m) m hm
          exact ⟨m', fun _ => ⟨h1, h2⟩⟩
        · exact ⟨0, fun ⟨σ, i, h⟩ => (hex ⟨_, σ, i, h, rfl⟩).elim⟩
      exact ⟨fun a w => (hl a w).choose, fun a w => (hl a w).choose_spec⟩
    obtain ⟨μ', hμ⟩ := hleast'
    refine wpIn_loop (fun a' w' => (∃ σ' i', At X σ' (I i') a' w') ∧ Keep X.B X.O w w') μ' ⟨⟨σ0, i0, hat0⟩, Keep.refl _ _ _⟩ fun a1 w1 hI => ?_
    obtain ⟨hex, hk1⟩ := hI
    obtain ⟨⟨σ1, i1, hat1, hm1⟩, hmin⟩ := hμ a1 w1 hex
    refine wpIn_mono (ih hck (hround i1) n σ1 a1 w1 hat1) fun ex a' w' hq => ?_
    obtain ⟨σ', st', hK, hat', hk⟩ := hq
    cases ex with
    | normal =>
      obtain ⟨j, hlej, hlt⟩ := hK
      obtain ⟨σ2, hat2⟩ := hlej σ' a' w' hat'
      refine ⟨⟨⟨σ2, j, hat2⟩, hk1.trans hk⟩, ?_⟩
      have := (hμ a' w' ⟨σ2, j, hat2⟩).2 (μ j) ⟨σ2, j, hat2, rfl⟩
      omega
    | _ => exact ⟨σ', st', hK, hat', hk1.trans hk⟩
  | rangeFunc f ps a b => intro st K hck h; exact h.ok
  | scope c ih =>
    intro st K hck h n σ a w hat
    obtain ⟨hF, h⟩ := h
    have hF : e.F () = Fence.wide := hF.ok
    have h1 := ih hck h n σ a w hat
    rw [hF] at h1 ⊢
    refine wpIn_wide.2 (wp_scope_straight (wpIn_wide.1 (wpIn_mono h1 fun x a' w' hq => ?_)))
    cases x with
    | goto l => obtain ⟨σ', st', hh, _⟩ := hq; exact hh.elim
    | _ => exact hq
  | refuse w => intro st K hck h; exact h.ok
theorem opsK_mono {T : Tab} {E : EqTab} {Γ : Gam} {lazy : Bool} {ops : Array Oper} : ∀ (l : List Oper) (st : St) (acc : List (Nat × List Nat × List Nat)) {K K' : St → List (Nat × List Nat × List Nat) → Prop}, opsK T E Γ lazy ops l st acc K → (∀ st acc, K st acc → K' st acc) → opsK T E Γ lazy ops l st acc K'
  | [], st, acc, K, K', h, hk => hk _ _ h
  | o :: r, st, acc, K, K', h, hk => ⟨h.1, opsK_mono r _ _ h.2 hk⟩
theorem regionP_mono (he : e.Ok) {ops : Array Oper} : ∀ (l : List Oper) (st : St) {K K' : St → Prop}, regionP e X ops l st K → (∀ st, K st → K' st) → regionP e X ops l st K'
  | [], st, K, K', h, hk => hk _ h
  | o :: r, st, K, K', h, hk => by
    simp only [regionP] at h ⊢
    split at h
    · exact ⟨h.1, regionP_mono he r _ h.2 hk⟩
    · rename_i p args hp
      have hpt : ∃ fn, e.pt fn = some p := by
        unfold ptOf at hp
        split at hp
        · split at hp
          · split at hp
            · split at hp
              · rename_i hh; cases hp; exact ⟨_, hh⟩
              · cases hp
            · cases hp
          · cases hp
        · cases hp
      obtain ⟨fn, hpt⟩ := hpt
      have yes : (needsP st o ∧ ∃ pins : List Nat, ∀ π : Ren, (∀ i u, π i = some u → inL pins i = true ∨ ∃ v, X.π i = some v) → (∀ i u, X.π i = some u → π i = some u) → p ⟨π, X.B, X.O, 0, none⟩ args st.M st.base fun v m b => (∀ i, X.df = some i → inL pins i = true) ∧ regionP e X ops r ⟨setR (keepS pins [] st.S) o.dst (.lit true, v), m, b⟩ K) →
          (needsP st o ∧ ∃ pins : List Nat, ∀ π : Ren, (∀ i u, π i = some u → inL pins i = true ∨ ∃ v, X.π i = some v) → (∀ i u, X.π i = some u → π i = some u) → p ⟨π, X.B, X.O, 0, none⟩ args st.M st.base fun v m b => (∀ i, X.df = some i → inL pins i = true) ∧ regionP e X ops r ⟨setR (keepS pins [] st.S) o.dst (.lit true, v), m, b⟩ K') := by
        rintro ⟨h1, pins, h2⟩
        exact ⟨h1, pins, fun π a b => (he.pts fn p hpt).1 _ _ _ _ _ _ (fun v m b hh => ⟨hh.1, regionP_mono he r _ hh.2 hk⟩) (h2 π a b)⟩
      split at h
      · exact h
      · exact yes h
      · exact regionP_mono he r _ h hk
      · exact ⟨fun hf => yes (h.1 hf), fun hf => regionP_mono he r _ (h.2 hf) hk⟩
theorem vc_mono (he : e.Ok) : ∀ {c : Code} {st : St} {K K' : Exit → St → Prop}, vc e X c st K → (∀ x st, K x st → K' x st) → vc e X c st K' := by
  intro c
  induction c with
  | skip => intro st K K' h hk; exact hk _ _ h
  | label l => intro st K K' h hk; exact hk _ _ h
  | exit id => intro st K K' h hk; exact hk _ _ h
  | goto l => intro st K K' h hk; exact hk _ _ h
  | ret => intro st K K' h hk; exact hk _ _ h
  | region id ops draw =>
    intro st K K' h hk
    simp only [vc] at h ⊢
    split at h
    · rename_i hp
      try simp only [hp]
      exact opsK_mono _ _ _ h fun st acc hh => ⟨hh.1, hk _ _ hh.2⟩
    · rename_i hp
      try simp only [hp]
      exact ⟨h.1, regionP_mono he _ _ h.2 fun st hh => hk _ _ hh⟩
  | seq x y ihx ihy =>
    intro st K K' h hk
    refine ihx h fun ex st' hh => ?_
    cases ex with
    | normal => exact ihy hh hk
    | _ => exact hk _ _ hh
  | cond c x y ihx ihy =>
    intro st K K' h hk
    simp only [vc] at h ⊢
    split at h
    · rename_i p z hev
      try simp only [hev]
      refine ⟨h.1, ?_⟩
      cases z with
      | lit b => cases b with
        | true => exact ihx h.2 hk
        | false => exact ihy h.2 hk
      | sy f => exact ⟨fun hf => ihx (h.2.1 hf) hk, fun hf => ihy (h.2.2 hf) hk⟩
    · exact h.elim
  | block id c ih =>
    intro st K K' h hk
    refine ih h fun ex st' hh => ?_
    cases ex with
    | exit id' =>
      simp only at hh ⊢
      split at hh
      · rename_i e1; rw [if_pos e1]; exact hk _ _ hh
      · rename_i e1; rw [if_neg e1]; exact hk _ _ hh
    | _ => exact hk _ _ hh
  | loop c ih =>
    intro st K K' h hk
    obtain ⟨ι, I, μ, i0, hle, hround⟩ := h
    refine ⟨ι, I, μ, i0, hle, fun i => ih (hround i) fun ex st' hh => ?_⟩
    cases ex with
    | normal => exact hh
    | _ => exact hk _ _ hh
  | rangeFunc f ps a b => intro st K K' h hk; exact ⟨fun n σ a w hat => wpIn_mono (h.ok n σ a w hat) fun x a' w' hq => let ⟨σ', st', h1, h2⟩ := hq; ⟨σ', st', hk _ _ h1, h2⟩⟩
  | scope c ih =>
    intro st K K' h hk
    refine ⟨h.1, ih h.2 fun ex st' hh => ?_⟩
    cases ex with
    | goto l => exact hh
    | _ => exact hk _ _ hh
  | refuse w => intro st K K' h hk; exact ⟨fun n σ a w hat => wpIn_mono (h.ok n σ a w hat) fun x a' w' hq => let ⟨σ', st', h1, h2⟩ := hq; ⟨σ', st', hk _ _ h1, h2⟩⟩
end
end Go.Proofs.YthgllnnlngihoaaGreat.Sx
end
