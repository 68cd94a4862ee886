/- What a function is lent: values, rows of data, variables, function values, one in the other; rows of data that it hands back; Functions: numbers, patterns; Functions of values: boxes, sights, habits. (Printed by gen2.py.); Patterns, blended. -/
import Derived.Test.YthgllnnlngihoaaGreatSz04
section
set_option linter.unusedVariables false
set_option linter.unusedSimpArgs false
namespace Go.Proofs.YthgllnnlngihoaaGreat.Sx
open Go.RowKit

/-- How an element lies in cells. -/
structure Cod (α : Type) where
  t : TypeId
  k : Nat
  enc : (Unit → α) → List CV
  dec : List CV → α
  d : α
  kpos : 0 < k
  len : ∀ a, (enc a).length = k
  closed : ∀ a, closedL (enc a) = true
  back : ∀ a, dec (enc a) = a ()

section
variable {α : Type} (C : Cod α)
def rowOf (md : Md) (xs : List α) : Ob := .row md C.t C.k (.sy (fun _ => xs.length) 0) fun e => C.enc fun _ => xs.getD e C.d
def listOf (s : Seen) : List α := (List.range s.len.val).map fun e => C.dec (s.get e)
/-- What is seen are such elements. -/
def okRow (s : Seen) : Prop := s.side ∧ (0 < s.len.val → s.k = C.k) ∧ ∀ e, e < s.len.val → All2 (CvLe fun _ => none) (s.get e) (C.enc fun _ => C.dec (s.get e))

theorem listOf_len (s : Seen) : (listOf C s).length = s.len.val := by simp [listOf]
theorem listOf_getD (s : Seen) {e : Nat} (h : e < s.len.val) : (listOf C s).getD e C.d = C.dec (s.get e) := by
  rw [List.getD_eq_getElem?_getD]
  simp [listOf, h]
theorem listOf_row (xs : List α) {side : Prop} {t : Nat} {r : List Nat} : listOf C ⟨side, .sy (fun _ => xs.length) 0, t, fun e => C.enc fun _ => xs.getD e C.d, r⟩ = xs := by
  apply List.ext_getElem?
  intro i
  by_cases h : i < xs.length
  · simp [listOf, h, C.back, NX.val, addN]
  · rw [List.getElem?_eq_none (by rw [listOf_len]; show xs.length ≤ i; omega), List.getElem?_eq_none (by omega)]
theorem okRow_row (xs : List α) {side : Prop} {r : List Nat} (hs : side) : okRow C ⟨side, .sy (fun _ => xs.length) 0, C.k, fun e => C.enc fun _ => xs.getD e C.d, r⟩ :=
  ⟨hs, fun _ => rfl, fun e _ => by
    simp only [C.back]
    exact closedL_le (C.closed _)⟩
end

section
variable {B : Nat} {O : Nat → Prop} {σ σ' : Ren} {M : Mem} {w : World} {α : Type}

/-- A row that is seen, in names of one's own. -/
theorem loc_row (C : Cod α) (h : Sim B O σ M w) {c : CV} {v : Value} (hv : CR σ c v) (hok : okRow C (seen M c)) : ObRel σ' w (rowOf C .ro (listOf C (seen M c))) v := by
  obtain ⟨hs, hk, hg⟩ := hok
  obtain ⟨A, cp, hve, hlm, hA⟩ := seen_ok h hv hs
  have own : ∀ i hv', σ i = some hv' → ∀ md tt k len get, M i = some (.row md tt k len get) → ∃ A c, hv' = .slice A len.val c ∧ len.val ≤ c ∧ c ≤ maxLen := by
    intro i hv' hσ md tt k len get hM
    obtain ⟨ob, hM', hr⟩ := h.ob i _ hσ
    rw [hM] at hM'
    cases hM'
    cases md with
    | ro => obtain ⟨A, c, e, a, b, _⟩ := hr; exact ⟨A, c, e, a, b⟩
    | own =>
      obtain ⟨_, ⟨e, hl⟩ | ⟨g, cap, _, e, _, a, b, _⟩⟩ := hr
      · rw [hl]; exact ⟨none, 0, e, Nat.le_refl _, Nat.zero_le _⟩
      · exact ⟨_, cap, e, a, b⟩
    | mk => obtain ⟨_, g, cap, _, _, e, _, _, a, b, _⟩ := hr; exact ⟨_, cap, e, a, b⟩
  have hcp : (seen M c).len.val ≤ cp ∧ cp ≤ maxLen := by
    generalize hL : (seen M c).len.val = L at hve
    cases c with
    | ref i =>
      cases hM : M i with
      | none => simp [seen, hM] at hs
      | some ob => cases ob with
        | row md tt k len get =>
          obtain ⟨A', c', e, a, b⟩ := own i _ hv.2 md tt k len get hM
          rw [hve] at e
          cases e
          exact ⟨a, b⟩
        | _ => simp [seen, hM] at hs
    | sub i s n k =>
      obtain ⟨_, hv', A', c', _, e, a, b, _⟩ := hv
      rw [hve] at e
      cases e
      exact ⟨a, b⟩
    | cut i n =>
      obtain ⟨_, a, L', c', hσ, e, hnl⟩ := hv
      rw [hve] at e
      cases e
      cases hM : M i with
      | none => simp [seen, hM] at hs
      | some ob => cases ob with
        | row md tt k len get =>
          obtain ⟨A', c'', e, a1, b1⟩ := own i _ hσ md tt k len get hM
          cases e
          exact ⟨by omega, b1⟩
        | _ => simp [seen, hM] at hs
    | c u =>
      have hvu : v = u := hv.2
      subst hvu
      have hz : ∀ u, (seen M (.c u)).len.val = 0 := by
        intro u
        unfold seen
        split <;> first | rfl | (rename_i h1; cases h1)
      rw [hz] at hL
      subst hL
      refine ⟨Nat.zero_le _, ?_⟩
      rw [hve] at hs
      unfold seen at hs
      split at hs
      · rename_i h1; cases h1
      · rename_i h1; cases h1
      · rename_i h1; cases h1
      · rename_i h1; cases h1; exact Nat.zero_le _
      · rename_i h1; cases h1; exact hs.ok
      · exact hs.elim
    | ptr _ _ _ _ => exact hs.elim
    | i _ _ => exact hs.elim
    | b _ => exact hs.elim
    | s _ => exact hs.elim
    | top => exact hs.elim
  subst hve
  refine ⟨A, cp, by rw [NX.v_sy, listOf_len]; rfl, by rw [NX.v_sy, listOf_len]; exact hcp.1, hcp.2, C.kpos, fun hl => ?_⟩
  rw [NX.v_sy, listOf_len] at hl
  obtain ⟨b, o, e, hra⟩ := hA hl
  have hk := hk hl
  refine ⟨b, o, e, fun e he => ?_⟩
  rw [NX.v_sy, listOf_len] at he
  have he : e < (seen M c).len.val := he
  refine ⟨C.len _, fun j c' hj => ?_⟩
  simp only [listOf_getD C _ he] at hj
  have hle := hg e he
  obtain ⟨c0, hc0⟩ : ∃ c0, ((seen M c).get e)[j]? = some c0 := by
    have := hle.length
    have hj' := (List.getElem?_eq_some_iff.1 hj).1
    exact ⟨((seen M c).get e)[j]'(by omega), by simp [this, hj']⟩
  obtain ⟨u, hu, hcr⟩ := (hra e he).2 j c0 hc0
  rw [hk] at hu
  obtain ⟨c1, hc1, hcl⟩ := hle.get j c0 hc0
  rw [hj] at hc1
  cases hc1
  refine ⟨u, hu, closedC_ok ?_ (hcl.ok hcr)⟩
  have : ∀ (l : List CV), closedL l = true → ∀ c ∈ l, closedC c = true := by
    intro l
    induction l with
    | nil => intro _ c hc; cases hc
    | cons x r ih =>
      intro h c hc
      simp only [closedL, Bool.and_eq_true] at h
      rcases List.mem_cons.1 hc with e | hc
      · subst e; exact h.1
      · exact ih h.2 c hc
  exact this _ (C.closed _) c' (List.mem_of_getElem? hj)

def RowFrom (M : Mem) (c : CV) (ob : Ob) : Prop := ∃ (α : Type) (C : Cod α), okRow C (seen M c) ∧ ob = rowOf C .ro (listOf C (seen M c))
def sameShape : List IV → List IV → Prop
  | [], [] => True
  | .one _ :: r, .one _ :: r' => sameShape r r'
  | .agg l :: r, .agg m :: r' => l.length = m.length ∧ sameShape r r'
  | _, _ => False

theorem args_cells : ∀ {args cargs : List IV} {vals : List Value}, sameShape args cargs → All2 (IR σ) args vals → ∃ us : List Value, All2 (CR σ) (args.flatMap (·.cells)) us ∧ ∀ σ', All2 (CR σ') (cargs.flatMap (·.cells)) us → All2 (IR σ') cargs vals
  | [], [], [], _, _ => ⟨[], trivial, fun _ _ => trivial⟩
  | [], [], _ :: _, _, h => h.elim
  | .one x :: r, .one y :: r', v :: vals, hs, ha => by
    obtain ⟨us, h1, h2⟩ := args_cells (args := r) (cargs := r') hs ha.2
    refine ⟨v :: us, ⟨ha.1, h1⟩, fun σ' h => ⟨h.1, h2 σ' h.2⟩⟩
  | .agg l :: r, .agg m :: r', v :: vals, hs, ha => by
    obtain ⟨us, h1, h2⟩ := args_cells (args := r) (cargs := r') hs.2 ha.2
    obtain ⟨vs, rfl, hv⟩ := ha.1
    refine ⟨vs ++ us, hv.append h1, fun σ' h => ?_⟩
    have split : ∀ (l : List CV) (vs : List Value) (l2 : List CV) (vs2 : List Value), l.length = vs.length → All2 (CR σ') (l ++ l2) (vs ++ vs2) → All2 (CR σ') l vs ∧ All2 (CR σ') l2 vs2 := by
      intro l
      induction l with
      | nil => intro vs l2 vs2 hl h; cases vs with
        | nil => exact ⟨trivial, h⟩
        | cons _ _ => simp at hl
      | cons x r ih => intro vs l2 vs2 hl h; cases vs with
        | nil => simp at hl
        | cons y ys => obtain ⟨a, b⟩ := ih ys l2 vs2 (by simpa using hl) h.2; exact ⟨⟨h.1, a⟩, b⟩
    obtain ⟨a, b⟩ := split m vs _ us (by rw [← hs.1, hv.length]) h
    exact ⟨⟨vs, rfl, a⟩, h2 σ' b⟩
  | [], _ :: _, _, hs, _ => hs.elim
  | .one _ :: _, [], _, hs, _ => hs.elim
  | .agg _ :: _, [], _, hs, _ => hs.elim
  | .tup _ :: _, _, _, hs, _ => by cases ‹List IV› <;> exact hs.elim
  | .one _ :: _, .agg _ :: _, _, hs, _ => hs.elim
  | .one _ :: _, .tup _ :: _, _, hs, _ => hs.elim
  | .agg _ :: _, .one _ :: _, _, hs, _ => hs.elim
  | .agg _ :: _, .tup _ :: _, _, hs, _ => hs.elim
  | .one _ :: _, .one _ :: _, [], _, h => h.elim
  | .agg _ :: _, .agg _ :: _, [], _, h => h.elim

end

inductive Flat (M : Mem) : Nat → List CV → List CV → List Ob → Prop
  | nil {n : Nat} : Flat M n [] [] []
  | val {n : Nat} {c : CV} {l m : List CV} {obs : List Ob} : closedC c = true → Flat M n l m obs → Flat M n (c :: l) (genC c :: m) obs
  | any {n : Nat} {c : CV} {l m : List CV} {obs : List Ob} : Flat M n l m obs → Flat M n (c :: l) (.top :: m) obs
  | weak {n : Nat} {c : CV} {ob ob' : Ob} {l m : List CV} {obs : List Ob} : RowFrom M c ob → ObLe (fun i => some (.old i)) ob ob' → Flat M (n + 1) l m obs → Flat M n (c :: l) (.ref n :: m) (ob' :: obs)
  | row {n : Nat} {c : CV} {ob : Ob} {l m : List CV} {obs : List Ob} : RowFrom M c ob → Flat M (n + 1) l m obs → Flat M n (c :: l) (.ref n :: m) (ob :: obs)
  | box {n i : Nat} {o : Bool} {t t' : TypeId} {cs cs' l m : List CV} {obs1 obs2 : List Ob} : M i = some (.box o t cs) → Flat M (n + 1) cs cs' obs1 → Flat M (n + 1 + obs1.length) l m obs2 → Flat M n (.ref i :: l) (.ref n :: m) (.box false t' cs' :: (obs1 ++ obs2))
  | clo {n i : Nat} {f : Fn} {first cap first' cap' l m : List CV} {obs1 obs2 : List Ob} : M i = some (.clo f first cap) → first.length = first'.length → Flat M (n + 1) (first ++ cap) (first' ++ cap') obs1 → Flat M (n + 1 + obs1.length) l m obs2 → Flat M n (.ref i :: l) (.ref n :: m) (.clo f first' cap' :: (obs1 ++ obs2))

theorem All2.split {α β : Type} {R : α → β → Prop} : ∀ {l l2 : List α} {vs vs2 : List β}, l.length = vs.length → All2 R (l ++ l2) (vs ++ vs2) → All2 R l vs ∧ All2 R l2 vs2
  | [], _, [], _, _, h => ⟨trivial, h⟩
  | _ :: _, _, _ :: _, _, hl, h => ⟨⟨h.1, (All2.split (by simpa using hl) h.2).1⟩, (All2.split (by simpa using hl) h.2).2⟩
  | [], _, _ :: _, _, hl, _ => by simp at hl
  | _ :: _, _, [], _, hl, _ => by simp at hl
theorem Flat.length {M : Mem} {n : Nat} {l m : List CV} {obs : List Ob} (h : Flat M n l m obs) : l.length = m.length := by
  induction h with
  | nil => rfl
  | val _ _ ih => simp [ih]
  | any _ ih => simp [ih]
  | weak _ _ _ ih => simp [ih]
  | row _ _ ih => simp [ih]
  | box _ _ _ _ ih => simp [ih]
  | clo _ _ _ _ _ ih => simp [ih]
theorem list_of_cells {σ : Ren} {rd : Nat → Value → Prop} : ∀ (cs : List CV), (∀ (j : Nat) c, cs[j]? = some c → ∃ v, rd j v ∧ CR σ c v) → ∃ vs : List Value, All2 (CR σ) cs vs ∧ ∀ (j : Nat) v, vs[j]? = some v → rd j v
  | [], _ => ⟨[], trivial, fun j v h => by simp at h⟩
  | c :: r, h => by
    obtain ⟨v, h1, h2⟩ := h 0 c rfl
    obtain ⟨vs, h3, h4⟩ := list_of_cells (rd := fun j v => rd (j + 1) v) r fun j c' hj => h (j + 1) c' (by simpa using hj)
    refine ⟨v :: vs, ⟨h2, h3⟩, fun j u hj => ?_⟩
    cases j with
    | zero => simp at hj; subst hj; exact h1
    | succ j => exact h4 j u (by simpa using hj)

theorem flat_ok {B : Nat} {O : Nat → Prop} {σ : Ren} {M : Mem} {w : World} (h : Sim B O σ M w) {n : Nat} {l m : List CV} {obs : List Ob} (hf : Flat M n l m obs) : ∀ {us : List Value}, All2 (CR σ) l us →
    ∃ vs : List Value, vs.length = obs.length ∧ ∀ full : List Value, (∀ t v, vs[t]? = some v → full[n + t]? = some v) → All2 (CR (nameOf full)) m us ∧ All2 (fun ob v => ObRel (nameOf full) w ob v) obs vs := by
  induction hf with
  | nil =>
    intro us hl
    cases us with
    | nil => exact ⟨[], rfl, fun _ _ => ⟨trivial, trivial⟩⟩
    | cons _ _ => exact hl.elim
  | val hc _ ih =>
    intro us hl
    cases us with
    | nil => exact hl.elim
    | cons u us =>
      obtain ⟨vs, h1, h2⟩ := ih hl.2
      exact ⟨vs, h1, fun full hfull => ⟨⟨genC_ok (closedC_ok hc hl.1), (h2 full hfull).1⟩, (h2 full hfull).2⟩⟩
  | any _ ih =>
    intro us hl
    cases us with
    | nil => exact hl.elim
    | cons u us =>
      obtain ⟨vs, h1, h2⟩ := ih hl.2
      exact ⟨vs, h1, fun full hfull => ⟨⟨⟨hl.1.1, trivial⟩, (h2 full hfull).1⟩, (h2 full hfull).2⟩⟩
  | @weak n c ob ob' l m obs hr hle _ ih =>
    intro us hl
    cases us with
    | nil => exact hl.elim
    | cons u us =>
      obtain ⟨vs, h1, h2⟩ := ih hl.2
      obtain ⟨α, C, hok, rfl⟩ := hr
      refine ⟨u :: vs, by simp [h1], fun full hfull => ?_⟩
      have hrest := h2 full fun t v hv => by
        have := hfull (t + 1) v (by simpa using hv)
        rw [show n + (t + 1) = n + 1 + t by omega] at this
        exact this
      refine ⟨⟨⟨hl.1.1, hfull 0 u rfl⟩, hrest.1⟩, ⟨?_, hrest.2⟩⟩
      have := hle.ok (loc_row (σ' := nameOf full) C h hl.1 hok)
      exact this
  | @row n c ob l m obs hr _ ih =>
    intro us hl
    cases us with
    | nil => exact hl.elim
    | cons u us =>
      obtain ⟨vs, h1, h2⟩ := ih hl.2
      obtain ⟨α, C, hok, rfl⟩ := hr
      refine ⟨u :: vs, by simp [h1], fun full hfull => ?_⟩
      have hrest := h2 full fun t v hv => by
        have := hfull (t + 1) v (by simpa using hv)
        rw [show n + (t + 1) = n + 1 + t by omega] at this
        exact this
      exact ⟨⟨⟨hl.1.1, hfull 0 u rfl⟩, hrest.1⟩, ⟨loc_row C h hl.1 hok, hrest.2⟩⟩
  | @box n i o t t' cs cs' l m obs1 obs2 hM h1 h2 ih1 ih2 =>
    intro us hl
    cases us with
    | nil => exact hl.elim
    | cons u us =>
      obtain ⟨ob, hM', hr⟩ := h.ob i u hl.1.2
      rw [hM] at hM'
      cases hM'
      have cells : ∃ b off, u = .pointer (some ⟨b, off, none⟩) ∧ ∀ (j : Nat) c, cs[j]? = some c → ∃ v, w.cell? ⟨b, off + j, none⟩ = some v ∧ CR σ c v := by
        cases o with
        | true =>
          obtain ⟨g, vs', rfl, hg, ha⟩ := hr
          refine ⟨g, 0, rfl, fun j c hj => ?_⟩
          obtain ⟨v, hv, hcr⟩ := ha.get j c hj
          exact ⟨v, by rw [Nat.zero_add, cell_at hg]; simpa using hv, hcr⟩
        | false => exact hr
      obtain ⟨b, off, rfl, hc⟩ := cells
      obtain ⟨ws, ha, hrd⟩ := list_of_cells (rd := fun j v => w.cell? ⟨b, off + j, none⟩ = some v) cs hc
      obtain ⟨vs1, hl1, hf1⟩ := ih1 ha
      obtain ⟨vs2, hl2, hf2⟩ := ih2 hl.2
      refine ⟨.pointer (some ⟨b, off, none⟩) :: (vs1 ++ vs2), by simp [hl1, hl2], fun full hfull => ?_⟩
      obtain ⟨a1, a2⟩ := hf1 full fun t v hv => by
        have := hfull (t + 1) v (by
          rw [List.getElem?_cons_succ, List.getElem?_append_left (List.getElem?_eq_some_iff.1 hv).1]
          exact hv)
        rw [show n + (t + 1) = n + 1 + t by omega] at this
        exact this
      obtain ⟨b1, b2⟩ := hf2 full fun t v hv => by
        have := hfull (vs1.length + t + 1) v (by
          rw [List.getElem?_cons_succ, List.getElem?_append_right (by omega), show vs1.length + t - vs1.length = t by omega]
          exact hv)
        rw [show n + (vs1.length + t + 1) = n + 1 + obs1.length + t by omega] at this
        exact this
      refine ⟨⟨⟨rfl, hfull 0 _ rfl⟩, b1⟩, ⟨⟨b, off, rfl, fun j c hj => ?_⟩, a2.append b2⟩⟩
      obtain ⟨v, hv, hcr⟩ := a1.get j c hj
      exact ⟨v, hrd j v hv, hcr⟩
  | @clo n i f first cap first' cap' l m obs1 obs2 hM hlen h1 h2 ih1 ih2 =>
    intro us hl
    cases us with
    | nil => exact hl.elim
    | cons u us =>
      obtain ⟨ob, hM', hr⟩ := h.ob i u hl.1.2
      rw [hM] at hM'
      cases hM'
      obtain ⟨x, y, rfl, hx, hy⟩ := hr
      obtain ⟨vs1, hl1, hf1⟩ := ih1 (hx.append hy)
      obtain ⟨vs2, hl2, hf2⟩ := ih2 hl.2
      refine ⟨.func f x.toArray y.toArray :: (vs1 ++ vs2), by simp [hl1, hl2], fun full hfull => ?_⟩
      obtain ⟨a1, a2⟩ := hf1 full fun t v hv => by
        have := hfull (t + 1) v (by
          rw [List.getElem?_cons_succ, List.getElem?_append_left (List.getElem?_eq_some_iff.1 hv).1]
          exact hv)
        rw [show n + (t + 1) = n + 1 + t by omega] at this
        exact this
      obtain ⟨b1, b2⟩ := hf2 full fun t v hv => by
        have := hfull (vs1.length + t + 1) v (by
          rw [List.getElem?_cons_succ, List.getElem?_append_right (by omega), show vs1.length + t - vs1.length = t by omega]
          exact hv)
        rw [show n + (vs1.length + t + 1) = n + 1 + obs1.length + t by omega] at this
        exact this
      obtain ⟨c1, c2⟩ := a1.split (by rw [← hlen, hx.length])
      exact ⟨⟨⟨rfl, hfull 0 _ rfl⟩, b1⟩, ⟨⟨x, y, rfl, c1, c2⟩, a2.append b2⟩⟩

theorem Flat.lent {M : Mem} {n : Nat} {l m : List CV} {obs : List Ob} (h : Flat M n l m obs) : Lent obs := by
  induction h with
  | nil => intro ob h; cases h
  | val _ _ ih => exact ih
  | any _ ih => exact ih
  | weak hr hle _ ih =>
    obtain ⟨α, C, hok, rfl⟩ := hr
    intro ob h
    rcases List.mem_cons.1 h with e | h
    · subst e
      rename_i ob' _ _ _
      cases hh : ob.own with
      | false => rfl
      | true => have := hle.own hh; simp [rowOf, Ob.own] at this
    · exact ih ob h
  | row hr _ ih =>
    obtain ⟨α, C, hok, rfl⟩ := hr
    intro ob h
    rcases List.mem_cons.1 h with e | h
    · subst e; rfl
    · exact ih ob h
  | box _ _ _ ih1 ih2 =>
    intro ob h
    rcases List.mem_cons.1 h with e | h
    · subst e; rfl
    · rcases List.mem_append.1 h with h | h
      · exact ih1 ob h
      · exact ih2 ob h
  | clo _ _ _ _ ih1 ih2 =>
    intro ob h
    rcases List.mem_cons.1 h with e | h
    · subst e; rfl
    · rcases List.mem_append.1 h with h | h
      · exact ih1 ob h
      · exact ih2 ob h

theorem flat_loc {B : Nat} {O : Nat → Prop} {σ : Ren} {M : Mem} {w : World} (h : Sim B O σ M w) {args cargs : List IV} {obs : List Ob} {vals : List Value} (hs : sameShape args cargs) (hf : Flat M 0 (args.flatMap (·.cells)) (cargs.flatMap (·.cells)) obs) (ha : All2 (IR σ) args vals) :
    ∃ vs, All2 (fun ob v => ObRel (nameOf vs) w ob v) obs vs ∧ All2 (IR (nameOf vs)) cargs vals := by
  obtain ⟨us, h1, h2⟩ := args_cells hs ha
  obtain ⟨vs, h3, h4⟩ := flat_ok h hf h1
  obtain ⟨a, b⟩ := h4 vs fun t v hv => by rw [Nat.zero_add]; exact hv
  exact ⟨vs, b, h2 _ a⟩

/-- What a function means, from its text: lent whatever (Flat), giving values and new objects. -/
theorem spec_gen {e : En} (he : e.Ok) (hro : (e.F ()).round = none) {f : FuncId} {fn : Func} {c : Code} (hf : (e.P ()).funcs[f]? = some fn) (hb : fn.body = some c) (hname : (fn.name == "runtime.NumGoroutine") = false) (hck : codeOk fn.ntmps c = true) {sp : Spec} (hcg : sp.Congr)
    (h : ∀ args M base, (sp args M base).side → ∃ (cargs : List IV) (obs : List Ob) (r : Nat → IV) (news : Nat → List Ob), cargs.length ≤ fn.ntmps ∧ sameShape args cargs ∧ Flat M 0 (args.flatMap (·.cells)) (cargs.flatMap (·.cells)) obs ∧
      (sp args M base).r = r base ∧ (sp args M base).news = news base ∧ (sp args M base).upd = [] ∧ IvLe (tauN base (news 0).length) (r 0) (r base) ∧ All2 (ObLe (tauN base (news 0).length)) (news 0) (news base) ∧ (∀ ob ∈ news base, ob.own = true ∨ ¬ ob.occ) ∧
      ∀ B, vc e ⟨fun _ => none, B, fun _ => False, fn.ntmps, none⟩ c (start cargs obs) fun x st => isRet x ∧ (resultI e.T fn.results.toList st.S.get (lget st.M)).1 ∧ ∃ js, FinBy e.T fn.results.toList js st (r 0) (news 0)) : SpecOk (e.F ()) (e.P ()) f sp := by
  refine spec_ok he hro hf hb hname hck hcg fun args M base hs => ?_
  obtain ⟨cargs, obs, r, news, h1, h2, h3, h4, h5, h6, h7, h8, h9, h10⟩ := h args M base hs
  exact ⟨r, news, fun B O σ w vals hS ha => (let ⟨vs, k1, k2⟩ := flat_loc hS h2 h3 ha; ⟨cargs, obs, vs, h1, h3.lent, k1, k2, h10⟩), h4, h5, h6, h7, h8, h9⟩
/-- .. giving values alone. -/
theorem spec_val {e : En} (he : e.Ok) (hro : (e.F ()).round = none) {f : FuncId} {fn : Func} {c : Code} (hf : (e.P ()).funcs[f]? = some fn) (hb : fn.body = some c) (hname : (fn.name == "runtime.NumGoroutine") = false) (hck : codeOk fn.ntmps c = true) {sp : Spec} (hcg : sp.Congr)
    (h : ∀ args M base, (sp args M base).side → ∃ (cargs : List IV) (obs : List Ob), cargs.length ≤ fn.ntmps ∧ sameShape args cargs ∧ Flat M 0 (args.flatMap (·.cells)) (cargs.flatMap (·.cells)) obs ∧ closedI (sp args M base).r = true ∧ (sp args M base).news = [] ∧ (sp args M base).upd = [] ∧
      ∀ B, vc e ⟨fun _ => none, B, fun _ => False, fn.ntmps, none⟩ c (start cargs obs) fun x st => isRet x ∧ (resultI e.T fn.results.toList st.S.get (lget st.M)).1 ∧ IvLe (fun _ => none) (resultI e.T fn.results.toList st.S.get (lget st.M)).2 (sp args M base).r) : SpecOk (e.F ()) (e.P ()) f sp := by
  refine spec_ok he hro hf hb hname hck hcg fun args M base hs => ?_
  obtain ⟨cargs, obs, h1, h2, h3, h4, h5, h6, h7⟩ := h args M base hs
  refine ⟨fun _ => (sp args M base).r, fun _ => [], fun B O σ w vals hS ha => (let ⟨vs, k1, k2⟩ := flat_loc hS h2 h3 ha; ⟨cargs, obs, vs, h1, h3.lent, k1, k2, fun B => vc_mono he (h7 B) fun x st hx => ⟨hx.1, hx.2.1, [], trivial, trivial, trivial, hx.2.2⟩⟩), rfl, h5, h6, closedI_le h4, trivial, fun ob hob => by cases hob⟩

/-- .. whose callees' meanings are chosen call by call. -/
theorem spec_any {f : FuncId} {fn : Func} {c : Code} (hf : Tryz.prog.funcs[f]? = some fn) (hb : fn.body = some c) (hname : (fn.name == "runtime.NumGoroutine") = false) (hck : codeOk fn.ntmps c = true) {sp : Spec} (hcg : sp.Congr)
    (h : ∀ args M base, (sp args M base).side → ∃ (l : List (FuncId × Spec)) (cargs : List IV) (obs : List Ob) (r : Nat → IV) (news : Nat → List Ob), AllSpecs l ∧ cargs.length ≤ fn.ntmps ∧ sameShape args cargs ∧ Flat M 0 (args.flatMap (·.cells)) (cargs.flatMap (·.cells)) obs ∧
      (sp args M base).r = r base ∧ (sp args M base).news = news base ∧ (sp args M base).upd = [] ∧ IvLe (tauN base (news 0).length) (r 0) (r base) ∧ All2 (ObLe (tauN base (news 0).length)) (news 0) (news base) ∧ (∀ ob ∈ news base, ob.own = true ∨ ¬ ob.occ) ∧
      ∀ B, vc (en l) ⟨fun _ => none, B, fun _ => False, fn.ntmps, none⟩ c (start cargs obs) fun x st => isRet x ∧ (resultI tab fn.results.toList st.S.get (lget st.M)).1 ∧ ∃ js, FinBy tab fn.results.toList js st (r 0) (news 0)) : SpecOk F0 Tryz.prog f sp := by
  refine ⟨hcg, ⟨fn, c, hf, hb, hname⟩, fun n B O σ M w args vals base hS ha hs hnew hfree => ?_⟩
  obtain ⟨l, cargs, obs, r, news, h0, h1, h2, h3, h4, h5, h6, h7, h8, h9, h10⟩ := h args M base hs
  exact calls_at (e := en l) (en_ok h0) rfl hf hb hck ⟨r, news, fun B O σ w vals hS ha => (let ⟨vs, k1, k2⟩ := flat_loc hS h2 h3 ha; ⟨cargs, obs, vs, h1, h3.lent, k1, k2, h10⟩), h4, h5, h6, h7, h8, h9⟩ n B O σ w vals hS ha hnew hfree
/-- Rows of data of one's own. -/
def DataRows (news : List Ob) : Prop := ∀ ob ∈ news, ∃ (α : Type) (C : Cod α) (xs : List α), ob = rowOf C .own xs

theorem rowOf_le {α : Type} (C : Cod α) (md : Md) (xs : List α) (τ : Nat → Option Src) : ObLe τ (rowOf C md xs) (rowOf C md xs) := by
  refine ⟨?_, isT_iff.2 (Nat.beq_refl _), isT_iff.2 (Nat.beq_refl _), ⟨rfl⟩, ⟨fun e _ => closedL_le (C.closed _)⟩⟩
  cases md <;> trivial
theorem dataRows_le {news : List Ob} (h : DataRows news) (τ : Nat → Option Src) : All2 (ObLe τ) news news := by
  induction news with
  | nil => trivial
  | cons ob r ih =>
    obtain ⟨α, C, xs, rfl⟩ := h ob (by simp)
    exact ⟨rowOf_le C .own xs τ, ih fun ob' h' => h ob' (by simp [h'])⟩

/-- A function that reads values and rows of data and gives values and new rows. -/
theorem spec_new {e : En} (he : e.Ok) (hro : (e.F ()).round = none) {f : FuncId} {fn : Func} {c : Code} (hf : (e.P ()).funcs[f]? = some fn) (hb : fn.body = some c) (hname : (fn.name == "runtime.NumGoroutine") = false) (hck : codeOk fn.ntmps c = true) {sp : Spec} (hcg : sp.Congr)
    (h : ∀ args M base, (sp args M base).side → ∃ (cargs : List IV) (obs : List Ob) (r : Nat → IV) (news : List Ob), cargs.length ≤ fn.ntmps ∧ sameShape args cargs ∧ Flat M 0 (args.flatMap (·.cells)) (cargs.flatMap (·.cells)) obs ∧
      (sp args M base).r = r base ∧ (sp args M base).news = news ∧ (sp args M base).upd = [] ∧ DataRows news ∧ IvLe (tauN base news.length) (r 0) (r base) ∧
      ∀ B, vc e ⟨fun _ => none, B, fun _ => False, fn.ntmps, none⟩ c (start cargs obs) fun x st => isRet x ∧ (resultI e.T fn.results.toList st.S.get (lget st.M)).1 ∧ ∃ js, FinBy e.T fn.results.toList js st (r 0) news) : SpecOk (e.F ()) (e.P ()) f sp := by
  refine spec_ok he hro hf hb hname hck hcg fun args M base hs => ?_
  obtain ⟨cargs, obs, r, news, h1, h2, h3, h4, h5, h6, h7, h8, h9⟩ := h args M base hs
  refine ⟨r, fun _ => news, fun B O σ w vals hS ha => (let ⟨vs, k1, k2⟩ := flat_loc hS h2 h3 ha; ⟨cargs, obs, vs, h1, h3.lent, k1, k2, h9⟩), h4, h5, h6, h8, dataRows_le h7 _, fun ob hob => ?_⟩
  obtain ⟨α, C, xs, rfl⟩ := h7 ob hob
  exact .inl rfl

/-- The names of new rows. -/
theorem tauN_at {base k t : Nat} (h : t < k) : tauN base k (base + t) = some (.old t) := by
  unfold tauN
  rw [if_pos ⟨by omega, by omega⟩, show base + t - base = t by omega]

/-! ### The program's data -/
structure SpanD where
  lo : Int
  hi : Int

structure PairD where
  one : Int
  two : Int

structure BoxD where
  x0 : Int
  x1 : Int
  y0 : Int
  y1 : Int

structure NoteD where
  id : Int
  kind : Int
  frm : Int
  til : Int

structure SightD where
  id : Int
  year : Int
  x0 : Int
  x1 : Int
  y0 : Int
  y1 : Int
  ls : ByteArray
  lo : Int
  hi : Int

def encInt (a : Unit → Int) : List CV := [.i .i64 (.sy a)]
def intD : Int := 0
def intCod : Cod Int where
  t := 3
  k := 1
  enc := encInt
  dec l := match l with
    | [.i _ x] => x.val
    | _ => 0
  d := intD
  kpos := by decide
  len _ := rfl
  closed _ := rfl
  back _ := rfl
def intRow (md : Md) (xs : List Int) : Ob := .row md 3 1 (.sy (fun _ => xs.length) 0) fun e => encInt fun _ => xs.getD e intD
def ints (M : Mem) (c : CV) : List Int := listOf intCod (seen M c)
def okInts (M : Mem) (c : CV) : Prop := okRow intCod (seen M c)
theorem int_row (xs : List Int) (side : Prop) (k : Nat) (r : List Nat) : listOf intCod ⟨side, .sy (fun _ => xs.length) 0, k, fun e => encInt fun _ => xs.getD e intD, r⟩ = xs := listOf_row intCod xs
theorem int_ok (xs : List Int) (r : List Nat) : okRow intCod ⟨True, .sy (fun _ => xs.length) 0, 1, fun e => encInt fun _ => xs.getD e intD, r⟩ := okRow_row intCod xs trivial
theorem int_from {M : Mem} {c : CV} (h : okInts M c) : RowFrom M c (intRow .ro (ints M c)) := ⟨_, intCod, h, rfl⟩
def encText (a : Unit → ByteArray) : List CV := [.s a]
def textD : ByteArray := ⟨#[]⟩
def textCod : Cod ByteArray where
  t := 9
  k := 1
  enc := encText
  dec l := match l with
    | [.s x] => x ()
    | _ => ⟨#[]⟩
  d := textD
  kpos := by decide
  len _ := rfl
  closed _ := rfl
  back _ := rfl
def textRow (md : Md) (xs : List ByteArray) : Ob := .row md 9 1 (.sy (fun _ => xs.length) 0) fun e => encText fun _ => xs.getD e textD
def texts (M : Mem) (c : CV) : List ByteArray := listOf textCod (seen M c)
def okTexts (M : Mem) (c : CV) : Prop := okRow textCod (seen M c)
theorem text_row (xs : List ByteArray) (side : Prop) (k : Nat) (r : List Nat) : listOf textCod ⟨side, .sy (fun _ => xs.length) 0, k, fun e => encText fun _ => xs.getD e textD, r⟩ = xs := listOf_row textCod xs
theorem text_ok (xs : List ByteArray) (r : List Nat) : okRow textCod ⟨True, .sy (fun _ => xs.length) 0, 1, fun e => encText fun _ => xs.getD e textD, r⟩ := okRow_row textCod xs trivial
theorem text_from {M : Mem} {c : CV} (h : okTexts M c) : RowFrom M c (textRow .ro (texts M c)) := ⟨_, textCod, h, rfl⟩
def encSpan (a : Unit → SpanD) : List CV := [.i .i64 (.sy fun _ => (a ()).lo), .i .i64 (.sy fun _ => (a ()).hi)]
def spanD : SpanD := ⟨0, 0⟩
def spanCod : Cod SpanD where
  t := 60
  k := 2
  enc := encSpan
  dec l := match l with
    | [.i _ x0, .i _ x1] => ⟨x0.val, x1.val⟩
    | _ => ⟨0, 0⟩
  d := spanD
  kpos := by decide
  len _ := rfl
  closed _ := rfl
  back _ := rfl
def spanRow (md : Md) (xs : List SpanD) : Ob := .row md 60 2 (.sy (fun _ => xs.length) 0) fun e => encSpan fun _ => xs.getD e spanD
def spans (M : Mem) (c : CV) : List SpanD := listOf spanCod (seen M c)
def okSpans (M : Mem) (c : CV) : Prop := okRow spanCod (seen M c)
theorem span_row (xs : List SpanD) (side : Prop) (k : Nat) (r : List Nat) : listOf spanCod ⟨side, .sy (fun _ => xs.length) 0, k, fun e => encSpan fun _ => xs.getD e spanD, r⟩ = xs := listOf_row spanCod xs
theorem span_ok (xs : List SpanD) (r : List Nat) : okRow spanCod ⟨True, .sy (fun _ => xs.length) 0, 2, fun e => encSpan fun _ => xs.getD e spanD, r⟩ := okRow_row spanCod xs trivial
theorem span_from {M : Mem} {c : CV} (h : okSpans M c) : RowFrom M c (spanRow .ro (spans M c)) := ⟨_, spanCod, h, rfl⟩
def encPair (a : Unit → PairD) : List CV := [.i .i64 (.sy fun _ => (a ()).one), .i .i64 (.sy fun _ => (a ()).two)]
def pairD : PairD := ⟨0, 0⟩
def pairCod : Cod PairD where
  t := 109
  k := 2
  enc := encPair
  dec l := match l with
    | [.i _ x0, .i _ x1] => ⟨x0.val, x1.val⟩
    | _ => ⟨0, 0⟩
  d := pairD
  kpos := by decide
  len _ := rfl
  closed _ := rfl
  back _ := rfl
def pairRow (md : Md) (xs : List PairD) : Ob := .row md 109 2 (.sy (fun _ => xs.length) 0) fun e => encPair fun _ => xs.getD e pairD
def pairs (M : Mem) (c : CV) : List PairD := listOf pairCod (seen M c)
def okPairs (M : Mem) (c : CV) : Prop := okRow pairCod (seen M c)
theorem pair_row (xs : List PairD) (side : Prop) (k : Nat) (r : List Nat) : listOf pairCod ⟨side, .sy (fun _ => xs.length) 0, k, fun e => encPair fun _ => xs.getD e pairD, r⟩ = xs := listOf_row pairCod xs
theorem pair_ok (xs : List PairD) (r : List Nat) : okRow pairCod ⟨True, .sy (fun _ => xs.length) 0, 2, fun e => encPair fun _ => xs.getD e pairD, r⟩ := okRow_row pairCod xs trivial
theorem pair_from {M : Mem} {c : CV} (h : okPairs M c) : RowFrom M c (pairRow .ro (pairs M c)) := ⟨_, pairCod, h, rfl⟩
def encBox (a : Unit → BoxD) : List CV := [.i .i64 (.sy fun _ => (a ()).x0), .i .i64 (.sy fun _ => (a ()).x1), .i .i64 (.sy fun _ => (a ()).y0), .i .i64 (.sy fun _ => (a ()).y1)]
def boxD : BoxD := ⟨0, 0, 0, 0⟩
def boxCod : Cod BoxD where
  t := 62
  k := 4
  enc := encBox
  dec l := match l with
    | [.i _ x0, .i _ x1, .i _ x2, .i _ x3] => ⟨x0.val, x1.val, x2.val, x3.val⟩
    | _ => ⟨0, 0, 0, 0⟩
  d := boxD
  kpos := by decide
  len _ := rfl
  closed _ := rfl
  back _ := rfl
def boxRow (md : Md) (xs : List BoxD) : Ob := .row md 62 4 (.sy (fun _ => xs.length) 0) fun e => encBox fun _ => xs.getD e boxD
def boxs (M : Mem) (c : CV) : List BoxD := listOf boxCod (seen M c)
def okBoxs (M : Mem) (c : CV) : Prop := okRow boxCod (seen M c)
theorem box_row (xs : List BoxD) (side : Prop) (k : Nat) (r : List Nat) : listOf boxCod ⟨side, .sy (fun _ => xs.length) 0, k, fun e => encBox fun _ => xs.getD e boxD, r⟩ = xs := listOf_row boxCod xs
theorem box_ok (xs : List BoxD) (r : List Nat) : okRow boxCod ⟨True, .sy (fun _ => xs.length) 0, 4, fun e => encBox fun _ => xs.getD e boxD, r⟩ := okRow_row boxCod xs trivial
theorem box_from {M : Mem} {c : CV} (h : okBoxs M c) : RowFrom M c (boxRow .ro (boxs M c)) := ⟨_, boxCod, h, rfl⟩
def encNote (a : Unit → NoteD) : List CV := [.i .i64 (.sy fun _ => (a ()).id), .i .i64 (.sy fun _ => (a ()).kind), .i .i64 (.sy fun _ => (a ()).frm), .i .i64 (.sy fun _ => (a ()).til)]
def noteD : NoteD := ⟨0, 0, 0, 0⟩
def noteCod : Cod NoteD where
  t := 121
  k := 4
  enc := encNote
  dec l := match l with
    | [.i _ x0, .i _ x1, .i _ x2, .i _ x3] => ⟨x0.val, x1.val, x2.val, x3.val⟩
    | _ => ⟨0, 0, 0, 0⟩
  d := noteD
  kpos := by decide
  len _ := rfl
  closed _ := rfl
  back _ := rfl
def noteRow (md : Md) (xs : List NoteD) : Ob := .row md 121 4 (.sy (fun _ => xs.length) 0) fun e => encNote fun _ => xs.getD e noteD
def notes (M : Mem) (c : CV) : List NoteD := listOf noteCod (seen M c)
def okNotes (M : Mem) (c : CV) : Prop := okRow noteCod (seen M c)
theorem note_row (xs : List NoteD) (side : Prop) (k : Nat) (r : List Nat) : listOf noteCod ⟨side, .sy (fun _ => xs.length) 0, k, fun e => encNote fun _ => xs.getD e noteD, r⟩ = xs := listOf_row noteCod xs
theorem note_ok (xs : List NoteD) (r : List Nat) : okRow noteCod ⟨True, .sy (fun _ => xs.length) 0, 4, fun e => encNote fun _ => xs.getD e noteD, r⟩ := okRow_row noteCod xs trivial
theorem note_from {M : Mem} {c : CV} (h : okNotes M c) : RowFrom M c (noteRow .ro (notes M c)) := ⟨_, noteCod, h, rfl⟩
def encSight (a : Unit → SightD) : List CV := [.i .i64 (.sy fun _ => (a ()).id), .i .i64 (.sy fun _ => (a ()).year), .i .i64 (.sy fun _ => (a ()).x0), .i .i64 (.sy fun _ => (a ()).x1), .i .i64 (.sy fun _ => (a ()).y0), .i .i64 (.sy fun _ => (a ()).y1), (.s fun _ => (a ()).ls), .i .i64 (.sy fun _ => (a ()).lo), .i .i64 (.sy fun _ => (a ()).hi)]
def sightD : SightD := ⟨0, 0, 0, 0, 0, 0, ⟨#[]⟩, 0, 0⟩
def sightCod : Cod SightD where
  t := 64
  k := 9
  enc := encSight
  dec l := match l with
    | [.i _ x0, .i _ x1, .i _ x2, .i _ x3, .i _ x4, .i _ x5, .s x6, .i _ x7, .i _ x8] => ⟨x0.val, x1.val, x2.val, x3.val, x4.val, x5.val, x6 (), x7.val, x8.val⟩
    | _ => ⟨0, 0, 0, 0, 0, 0, ⟨#[]⟩, 0, 0⟩
  d := sightD
  kpos := by decide
  len _ := rfl
  closed _ := rfl
  back _ := rfl
def sightRow (md : Md) (xs : List SightD) : Ob := .row md 64 9 (.sy (fun _ => xs.length) 0) fun e => encSight fun _ => xs.getD e sightD
def sights (M : Mem) (c : CV) : List SightD := listOf sightCod (seen M c)
def okSights (M : Mem) (c : CV) : Prop := okRow sightCod (seen M c)
theorem sight_row (xs : List SightD) (side : Prop) (k : Nat) (r : List Nat) : listOf sightCod ⟨side, .sy (fun _ => xs.length) 0, k, fun e => encSight fun _ => xs.getD e sightD, r⟩ = xs := listOf_row sightCod xs
theorem sight_ok (xs : List SightD) (r : List Nat) : okRow sightCod ⟨True, .sy (fun _ => xs.length) 0, 9, fun e => encSight fun _ => xs.getD e sightD, r⟩ := okRow_row sightCod xs trivial
theorem sight_from {M : Mem} {c : CV} (h : okSights M c) : RowFrom M c (sightRow .ro (sights M c)) := ⟨_, sightCod, h, rfl⟩
theorem intD_eq : intD = 0 := rfl
theorem int_row0 (xs : List Int) (side : Prop) (k : Nat) (r : List Nat) : listOf intCod ⟨side, .sy (fun _ => xs.length) 0, k, fun e => encInt fun _ => xs.getD e 0, r⟩ = xs := listOf_row intCod xs
theorem encInt_le {τ : Nat → Option Src} (a) : All2 (CvLe τ) (encInt a) (encInt a) = True := eq_true (closedL_le rfl)
theorem encText_le {τ : Nat → Option Src} (a) : All2 (CvLe τ) (encText a) (encText a) = True := eq_true (closedL_le rfl)
theorem encSpan_le {τ : Nat → Option Src} (a) : All2 (CvLe τ) (encSpan a) (encSpan a) = True := eq_true (closedL_le rfl)
theorem encPair_le {τ : Nat → Option Src} (a) : All2 (CvLe τ) (encPair a) (encPair a) = True := eq_true (closedL_le rfl)
theorem encBox_le {τ : Nat → Option Src} (a) : All2 (CvLe τ) (encBox a) (encBox a) = True := eq_true (closedL_le rfl)
theorem encNote_le {τ : Nat → Option Src} (a) : All2 (CvLe τ) (encNote a) (encNote a) = True := eq_true (closedL_le rfl)
theorem encSight_le {τ : Nat → Option Src} (a) : All2 (CvLe τ) (encSight a) (encSight a) = True := eq_true (closedL_le rfl)
theorem cell_i_le {τ : Nat → Option Src} (k : IntKind) (x : IX) : All2 (CvLe τ) [CV.i k x] [CV.i k x] = True := eq_true (closedL_le rfl)
end Go.Proofs.YthgllnnlngihoaaGreat.Sx
end
section
set_option linter.unusedVariables false
set_option linter.unusedSimpArgs false
set_option maxRecDepth 100000
namespace Go.Proofs.YthgllnnlngihoaaGreat.Sx
open Go.RowKit

def spWithin : Spec := fun args _ _ => match args with
  | [.one (.i .i64 n), .one (.i .i64 lo), .one (.i .i64 hi)] => gives True (cbool (.sy fun _ => leB lo.val n.val && leB n.val hi.val))
  | _ => bad
theorem okWithin : SpecOk F0 Tryz.prog 81 spWithin := by
  refine spec_pure (e := en []) (en_ok trivial) rfl (fn := Tryz.f81) (c := fbody Tryz.f81) (by kernel_rfl) rfl rfl (by kernel_rfl) (fun _ _ _ _ => rfl) fun args M base hs => ?_
  unfold spWithin at hs ⊢
  split at hs
  · rename_i n lo hi
    refine ⟨Nat.le_of_ble_eq_true rfl, rfl, rfl, rfl, rfl, fun B => ?_⟩
    cbv
    simp only [implies_true, and_true, true_and, IX.v_lit, IX.v_nat, IX.v_sy, BX.v_lit, BX.v_sy, NX.v_lit, NX.v_sy, addN, in_true, eq_self, Nat.succ_eq_add_one, intD_eq, encInt_le, encText_le, encSpan_le, encPair_le, encBox_le, encNote_le, encSight_le, cell_i_le, Nat.add_zero, Int.toNat_natCast, Nat.lt_irrefl, if_false, and_self, ncast, imp_self, in_self, in_self2, in_and, Int.cast_ofNat_Int, in_and2, ltB_t, ltB_f, leB_t, leB_f, eqB_t, eqB_f, ltNB_t, ltNB_f, leNB_t, leNB_f, eqNB_t, eqNB_f, noT, noF, Bool.and_eq_true, Bool.or_eq_true, Bool.and_eq_false_iff, Bool.or_eq_false_iff]
  · exact hs.elim

def isLetter (c : Int) (points : Bool) : Bool := (decide (65 ≤ c) && decide (c ≤ 90)) || (points && decide (c = 46))
def isPattern (s : ByteArray) (points : Bool) : Bool := (decide (1 ≤ (s.size : Int)) && decide ((s.size : Int) ≤ 8)) && (List.range s.size).all fun i => isLetter (byteAt s i) points
def spPattern : Spec := fun args _ _ => match args with
  | [.one (.s s), .one (.b p)] => gives True (cbool (.sy fun _ => isPattern (s ()) p.val))
  | _ => bad
theorem byteAt_ge (s : ByteArray) (i : Nat) : 0 ≤ byteAt s i := Int.natCast_nonneg _
theorem byteAt_le (s : ByteArray) (i : Nat) : byteAt s i ≤ 255 := by
  unfold byteAt
  have := (s.data.toList.getD i 0).toNat_lt
  omega
theorem byteAt_fits (s : ByteArray) (i : Nat) : fitsK .i64 (byteAt s i) := by
  have := byteAt_ge s i
  have := byteAt_le s i
  unfold fitsK
  omega
theorem okPattern : SpecOk F0 Tryz.prog 100 spPattern := by
  refine spec_pure (e := en [(81, spWithin)]) (en_ok ⟨okWithin, trivial⟩) rfl (fn := Tryz.f100) (c := fbody Tryz.f100) (by kernel_rfl) rfl rfl (by kernel_rfl) (fun _ _ _ _ => rfl) fun args M base hs => ?_
  unfold spPattern at hs ⊢
  split at hs
  · rename_i s p
    obtain ⟨s, rfl⟩ : ∃ t, s = fun _ => t := ⟨s (), rfl⟩
    refine ⟨Nat.le_of_ble_eq_true rfl, rfl, rfl, rfl, rfl, fun B => ?_⟩
    cbv
    simp only [implies_true, and_true, true_and, IX.v_lit, IX.v_nat, IX.v_sy, BX.v_lit, BX.v_sy, NX.v_lit, NX.v_sy, addN, in_true, eq_self, Nat.succ_eq_add_one, intD_eq, encInt_le, encText_le, encSpan_le, encPair_le, encBox_le, encNote_le, encSight_le, cell_i_le, Nat.add_zero, Int.toNat_natCast, Nat.lt_irrefl, if_false, and_self, ncast, imp_self, in_self, in_self2, in_and, Int.cast_ofNat_Int, in_and2, ltB_t, ltB_f, leB_t, leB_f, eqB_t, eqB_f, ltNB_t, ltNB_f, leNB_t, leNB_f, eqNB_t, eqNB_f, noT, noF, Bool.and_eq_true, Bool.or_eq_true, Bool.and_eq_false_iff, Bool.or_eq_false_iff]
    refine ⟨fun h => ?_, fun h => ?_⟩
    · cbv
      simp only [implies_true, and_true, true_and, IX.v_lit, IX.v_nat, IX.v_sy, BX.v_lit, BX.v_sy, NX.v_lit, NX.v_sy, addN, in_true, eq_self, Nat.succ_eq_add_one, intD_eq, encInt_le, encText_le, encSpan_le, encPair_le, encBox_le, encNote_le, encSight_le, cell_i_le, Nat.add_zero, Int.toNat_natCast, Nat.lt_irrefl, if_false, and_self, ncast, imp_self, in_self, in_self2, in_and, Int.cast_ofNat_Int, in_and2, ltB_t, ltB_f, leB_t, leB_f, eqB_t, eqB_f, ltNB_t, ltNB_f, leNB_t, leNB_f, eqNB_t, eqNB_f, noT, noF, Bool.and_eq_true, Bool.or_eq_true, Bool.and_eq_false_iff, Bool.or_eq_false_iff]
      have h' : (decide (1 ≤ (s.size : Int)) && decide ((s.size : Int) ≤ 8)) = false := by simp; (first | omega | (simp only [ncast] at *; omega))
      unfold isPattern
      rw [h']
      exact ⟨rfl⟩
    · have h' : (decide (1 ≤ (s.size : Int)) && decide ((s.size : Int) ≤ 8)) = true := by simp; omega
      have hp : isPattern s p.val = (List.range s.size).all fun i => isLetter (byteAt s i) p.val := by
        unfold isPattern
        rw [h']
        rfl
      have h8 : s.size ≤ 8 := by omega
      cbv
      simp only [implies_true, and_true, true_and, IX.v_lit, IX.v_nat, IX.v_sy, BX.v_lit, BX.v_sy, NX.v_lit, NX.v_sy, addN, in_true, eq_self, Nat.succ_eq_add_one, intD_eq, encInt_le, encText_le, encSpan_le, encPair_le, encBox_le, encNote_le, encSight_le, cell_i_le, Nat.add_zero, Int.toNat_natCast, Nat.lt_irrefl, if_false, and_self, ncast, imp_self, in_self, in_self2, in_and, Int.cast_ofNat_Int, in_and2, ltB_t, ltB_f, leB_t, leB_f, eqB_t, eqB_f, ltNB_t, ltNB_f, leNB_t, leNB_f, eqNB_t, eqNB_f, noT, noF, Bool.and_eq_true, Bool.or_eq_true, Bool.and_eq_false_iff, Bool.or_eq_false_iff]
      refine ⟨⟨by omega⟩, {i : Nat // i ≤ s.size ∧ ∀ j, j < i → isLetter (byteAt s j) p.val = true}, fun i => ⟨[(0, .lit true, .one (.s fun _ => s)), (1, .lit true, .one (.b (.sy fun _ => p.val))), (4, .lit true, cbool (.lit false)), (12, .lit true, .one (.ref 0)), (13, .lit true, cint .i64 (.nat (fun _ => s.size) 0)), (14, .lit true, cint .i64 (.nat (fun _ => i.1) 0))], [(0, .row .mk 5 1 (.sy (fun _ => s.size) 0) fun n => [.i .u8 (.sy fun _ => byteAt s n)])], 1⟩, fun i => s.size - i.1, ⟨0, by omega, fun j hj => by omega⟩, LeBy.le (pins := []) (fun i u h => by cases h) (l := [(0, .old 0)]) ?_, fun i => ?_⟩
      · cbv
        simp only [implies_true, and_true, true_and, IX.v_lit, IX.v_nat, IX.v_sy, BX.v_lit, BX.v_sy, NX.v_lit, NX.v_sy, addN, in_true, eq_self, Nat.succ_eq_add_one, intD_eq, encInt_le, encText_le, encSpan_le, encPair_le, encBox_le, encNote_le, encSight_le, cell_i_le, Nat.add_zero, Int.toNat_natCast, Nat.lt_irrefl, if_false, and_self, ncast, imp_self, in_self, in_self2, in_and, Int.cast_ofNat_Int, in_and2, ltB_t, ltB_f, leB_t, leB_f, eqB_t, eqB_f, ltNB_t, ltNB_f, leNB_t, leNB_f, eqNB_t, eqNB_f, noT, noF, Bool.and_eq_true, Bool.or_eq_true, Bool.and_eq_false_iff, Bool.or_eq_false_iff]
      · obtain ⟨i, hi, hl⟩ := i
        cbv
        simp only [implies_true, and_true, true_and, IX.v_lit, IX.v_nat, IX.v_sy, BX.v_lit, BX.v_sy, NX.v_lit, NX.v_sy, addN, in_true, eq_self, Nat.succ_eq_add_one, intD_eq, encInt_le, encText_le, encSpan_le, encPair_le, encBox_le, encNote_le, encSight_le, cell_i_le, Nat.add_zero, Int.toNat_natCast, Nat.lt_irrefl, if_false, and_self, ncast, imp_self, in_self, in_self2, in_and, Int.cast_ofNat_Int, in_and2, ltB_t, ltB_f, leB_t, leB_f, eqB_t, eqB_f, ltNB_t, ltNB_f, leNB_t, leNB_f, eqNB_t, eqNB_f, noT, noF, Bool.and_eq_true, Bool.or_eq_true, Bool.and_eq_false_iff, Bool.or_eq_false_iff]
        refine ⟨fun hlt => ?_, fun hlt => ?_⟩
        · cbv
          simp only [implies_true, and_true, true_and, IX.v_lit, IX.v_nat, IX.v_sy, BX.v_lit, BX.v_sy, NX.v_lit, NX.v_sy, addN, in_true, eq_self, Nat.succ_eq_add_one, intD_eq, encInt_le, encText_le, encSpan_le, encPair_le, encBox_le, encNote_le, encSight_le, cell_i_le, Nat.add_zero, Int.toNat_natCast, Nat.lt_irrefl, if_false, and_self, ncast, imp_self, in_self, in_self2, in_and, Int.cast_ofNat_Int, in_and2, ltB_t, ltB_f, leB_t, leB_f, eqB_t, eqB_f, ltNB_t, ltNB_f, leNB_t, leNB_f, eqNB_t, eqNB_f, noT, noF, Bool.and_eq_true, Bool.or_eq_true, Bool.and_eq_false_iff, Bool.or_eq_false_iff]
          refine ⟨⟨hlt⟩, ⟨hlt⟩, ⟨byteAt_fits _ i⟩, fun hb => ?_, fun hb => ?_⟩
          · cbv
            simp only [implies_true, and_true, true_and, IX.v_lit, IX.v_nat, IX.v_sy, BX.v_lit, BX.v_sy, NX.v_lit, NX.v_sy, addN, in_true, eq_self, Nat.succ_eq_add_one, intD_eq, encInt_le, encText_le, encSpan_le, encPair_le, encBox_le, encNote_le, encSight_le, cell_i_le, Nat.add_zero, Int.toNat_natCast, Nat.lt_irrefl, if_false, and_self, ncast, imp_self, in_self, in_self2, in_and, Int.cast_ofNat_Int, in_and2, ltB_t, ltB_f, leB_t, leB_f, eqB_t, eqB_f, ltNB_t, ltNB_f, leNB_t, leNB_f, eqNB_t, eqNB_f, noT, noF, Bool.and_eq_true, Bool.or_eq_true, Bool.and_eq_false_iff, Bool.or_eq_false_iff]
            rw [hp]
            refine ⟨List.all_eq_false.2 ⟨i, List.mem_range.2 (by omega), ?_⟩⟩
            unfold isLetter
            revert hb
            generalize byteAt s i = c
            cases p.val <;> simp <;> intros <;> omega
          · cbv
            simp only [implies_true, and_true, true_and, IX.v_lit, IX.v_nat, IX.v_sy, BX.v_lit, BX.v_sy, NX.v_lit, NX.v_sy, addN, in_true, eq_self, Nat.succ_eq_add_one, intD_eq, encInt_le, encText_le, encSpan_le, encPair_le, encBox_le, encNote_le, encSight_le, cell_i_le, Nat.add_zero, Int.toNat_natCast, Nat.lt_irrefl, if_false, and_self, ncast, imp_self, in_self, in_self2, in_and, Int.cast_ofNat_Int, in_and2, ltB_t, ltB_f, leB_t, leB_f, eqB_t, eqB_f, ltNB_t, ltNB_f, leNB_t, leNB_f, eqNB_t, eqNB_f, noT, noF, Bool.and_eq_true, Bool.or_eq_true, Bool.and_eq_false_iff, Bool.or_eq_false_iff]
            refine ⟨⟨nat_fits hlt (by omega)⟩, ⟨i + 1, by omega, fun j hj => ?_⟩, LeBy.le (pins := []) (fun i u h => by cases h) (l := [(0, .old 0)]) ?_, by show s.size - (i + 1) < s.size - i; omega⟩
            · rcases Nat.lt_or_ge j i with h1 | h1
              · exact hl j h1
              · rw [show j = i by omega]
                unfold isLetter
                revert hb
                generalize byteAt s i = c
                cases p.val <;> simp <;> intros <;> omega
            · cbv
              simp only [implies_true, and_true, true_and, IX.v_lit, IX.v_nat, IX.v_sy, BX.v_lit, BX.v_sy, NX.v_lit, NX.v_sy, addN, in_true, eq_self, Nat.succ_eq_add_one, intD_eq, encInt_le, encText_le, encSpan_le, encPair_le, encBox_le, encNote_le, encSight_le, cell_i_le, Nat.add_zero, Int.toNat_natCast, Nat.lt_irrefl, if_false, and_self, ncast, imp_self, in_self, in_self2, in_and, Int.cast_ofNat_Int, in_and2, ltB_t, ltB_f, leB_t, leB_f, eqB_t, eqB_f, ltNB_t, ltNB_f, leNB_t, leNB_f, eqNB_t, eqNB_f, noT, noF, Bool.and_eq_true, Bool.or_eq_true, Bool.and_eq_false_iff, Bool.or_eq_false_iff]
        · cbv
          simp only [implies_true, and_true, true_and, IX.v_lit, IX.v_nat, IX.v_sy, BX.v_lit, BX.v_sy, NX.v_lit, NX.v_sy, addN, in_true, eq_self, Nat.succ_eq_add_one, intD_eq, encInt_le, encText_le, encSpan_le, encPair_le, encBox_le, encNote_le, encSight_le, cell_i_le, Nat.add_zero, Int.toNat_natCast, Nat.lt_irrefl, if_false, and_self, ncast, imp_self, in_self, in_self2, in_and, Int.cast_ofNat_Int, in_and2, ltB_t, ltB_f, leB_t, leB_f, eqB_t, eqB_f, ltNB_t, ltNB_f, leNB_t, leNB_f, eqNB_t, eqNB_f, noT, noF, Bool.and_eq_true, Bool.or_eq_true, Bool.and_eq_false_iff, Bool.or_eq_false_iff]
          rw [hp]
          exact ⟨List.all_eq_true.2 fun j hj => hl j (by have := List.mem_range.1 hj; omega)⟩
  · exact hs.elim
end Go.Proofs.YthgllnnlngihoaaGreat.Sx
end
section
set_option linter.unusedVariables false
set_option linter.unusedSimpArgs false
set_option maxRecDepth 100000
namespace Go.Proofs.YthgllnnlngihoaaGreat.Sx
open Go.RowKit

def inB (n lo hi : Int) : Bool := decide (lo ≤ n) && decide (n ≤ hi)
theorem okWithin115 : SpecOk F0 Tryz.prog 115 spWithin := by
  refine spec_pure (e := en []) (en_ok trivial) rfl (fn := Tryz.f115) (c := fbody Tryz.f115) (by kernel_rfl) rfl rfl (by kernel_rfl) (fun _ _ _ _ => rfl) fun args M base hs => ?_
  unfold spWithin at hs ⊢
  split at hs
  · refine ⟨Nat.le_of_ble_eq_true rfl, rfl, rfl, rfl, rfl, fun B => ?_⟩
    cbv
    simp only [implies_true, and_true, true_and, IX.v_lit, IX.v_nat, IX.v_sy, BX.v_lit, BX.v_sy, NX.v_lit, NX.v_sy, addN, in_true, eq_self, Nat.succ_eq_add_one, intD_eq, encInt_le, encText_le, encSpan_le, encPair_le, encBox_le, encNote_le, encSight_le, cell_i_le, Nat.add_zero, Int.toNat_natCast, Nat.lt_irrefl, if_false, and_self, ncast, imp_self, in_self, in_self2, in_and, Int.cast_ofNat_Int, in_and2, ltB_t, ltB_f, leB_t, leB_f, eqB_t, eqB_f, ltNB_t, ltNB_f, leNB_t, leNB_f, eqNB_t, eqNB_f, noT, noF, Bool.and_eq_true, Bool.or_eq_true, Bool.and_eq_false_iff, Bool.or_eq_false_iff]
    all_goals exact ⟨rfl⟩
  · exact hs.elim
theorem okWithin86 : SpecOk F0 Tryz.prog 86 spWithin := by
  refine spec_pure (e := en []) (en_ok trivial) rfl (fn := Tryz.f86) (c := fbody Tryz.f86) (by kernel_rfl) rfl rfl (by kernel_rfl) (fun _ _ _ _ => rfl) fun args M base hs => ?_
  unfold spWithin at hs ⊢
  split at hs
  · refine ⟨Nat.le_of_ble_eq_true rfl, rfl, rfl, rfl, rfl, fun B => ?_⟩
    cbv
    simp only [implies_true, and_true, true_and, IX.v_lit, IX.v_nat, IX.v_sy, BX.v_lit, BX.v_sy, NX.v_lit, NX.v_sy, addN, in_true, eq_self, Nat.succ_eq_add_one, intD_eq, encInt_le, encText_le, encSpan_le, encPair_le, encBox_le, encNote_le, encSight_le, cell_i_le, Nat.add_zero, Int.toNat_natCast, Nat.lt_irrefl, if_false, and_self, ncast, imp_self, in_self, in_self2, in_and, Int.cast_ofNat_Int, in_and2, ltB_t, ltB_f, leB_t, leB_f, eqB_t, eqB_f, ltNB_t, ltNB_f, leNB_t, leNB_f, eqNB_t, eqNB_f, noT, noF, Bool.and_eq_true, Bool.or_eq_true, Bool.and_eq_false_iff, Bool.or_eq_false_iff]
    all_goals exact ⟨rfl⟩
  · exact hs.elim
theorem okWithin157 : SpecOk F0 Tryz.prog 157 spWithin := by
  refine spec_pure (e := en []) (en_ok trivial) rfl (fn := Tryz.f157) (c := fbody Tryz.f157) (by kernel_rfl) rfl rfl (by kernel_rfl) (fun _ _ _ _ => rfl) fun args M base hs => ?_
  unfold spWithin at hs ⊢
  split at hs
  · refine ⟨Nat.le_of_ble_eq_true rfl, rfl, rfl, rfl, rfl, fun B => ?_⟩
    cbv
    simp only [implies_true, and_true, true_and, IX.v_lit, IX.v_nat, IX.v_sy, BX.v_lit, BX.v_sy, NX.v_lit, NX.v_sy, addN, in_true, eq_self, Nat.succ_eq_add_one, intD_eq, encInt_le, encText_le, encSpan_le, encPair_le, encBox_le, encNote_le, encSight_le, cell_i_le, Nat.add_zero, Int.toNat_natCast, Nat.lt_irrefl, if_false, and_self, ncast, imp_self, in_self, in_self2, in_and, Int.cast_ofNat_Int, in_and2, ltB_t, ltB_f, leB_t, leB_f, eqB_t, eqB_f, ltNB_t, ltNB_f, leNB_t, leNB_f, eqNB_t, eqNB_f, noT, noF, Bool.and_eq_true, Bool.or_eq_true, Bool.and_eq_false_iff, Bool.or_eq_false_iff]
    all_goals exact ⟨rfl⟩
  · exact hs.elim

/-- stone.usual, ref.habit -/
def usualB (a b c : Int) : Bool := inB a 0 10000 && inB b 0 10000 && inB c 0 20
def spUsual : Spec := fun args _ _ => match args with
  | [.agg [.i .i64 a, .i .i64 b, .i .i64 c]] => gives True (cbool (.sy fun _ => usualB a.val b.val c.val))
  | _ => bad
theorem okUsual : SpecOk F0 Tryz.prog 80 spUsual := by
  refine spec_pure (e := en [(81, spWithin)]) (en_ok ⟨okWithin, trivial⟩) rfl (fn := Tryz.f80) (c := fbody Tryz.f80) (by kernel_rfl) rfl rfl (by kernel_rfl) (fun _ _ _ _ => rfl) fun args M base hs => ?_
  unfold spUsual at hs ⊢
  split at hs
  · refine ⟨Nat.le_of_ble_eq_true rfl, rfl, rfl, rfl, rfl, fun B => ?_⟩
    cbv
    simp only [implies_true, and_true, true_and, IX.v_lit, IX.v_nat, IX.v_sy, BX.v_lit, BX.v_sy, NX.v_lit, NX.v_sy, addN, in_true, eq_self, Nat.succ_eq_add_one, intD_eq, encInt_le, encText_le, encSpan_le, encPair_le, encBox_le, encNote_le, encSight_le, cell_i_le, Nat.add_zero, Int.toNat_natCast, Nat.lt_irrefl, if_false, and_self, ncast, imp_self, in_self, in_self2, in_and, Int.cast_ofNat_Int, in_and2, ltB_t, ltB_f, leB_t, leB_f, eqB_t, eqB_f, ltNB_t, ltNB_f, leNB_t, leNB_f, eqNB_t, eqNB_f, noT, noF, Bool.and_eq_true, Bool.or_eq_true, Bool.and_eq_false_iff, Bool.or_eq_false_iff]
    all_goals exact ⟨rfl⟩
  · exact hs.elim
theorem okHabit : SpecOk F0 Tryz.prog 85 spUsual := by
  refine spec_pure (e := en [(86, spWithin)]) (en_ok ⟨okWithin86, trivial⟩) rfl (fn := Tryz.f85) (c := fbody Tryz.f85) (by kernel_rfl) rfl rfl (by kernel_rfl) (fun _ _ _ _ => rfl) fun args M base hs => ?_
  unfold spUsual at hs ⊢
  split at hs
  · refine ⟨Nat.le_of_ble_eq_true rfl, rfl, rfl, rfl, rfl, fun B => ?_⟩
    cbv
    simp only [implies_true, and_true, true_and, IX.v_lit, IX.v_nat, IX.v_sy, BX.v_lit, BX.v_sy, NX.v_lit, NX.v_sy, addN, in_true, eq_self, Nat.succ_eq_add_one, intD_eq, encInt_le, encText_le, encSpan_le, encPair_le, encBox_le, encNote_le, encSight_le, cell_i_le, Nat.add_zero, Int.toNat_natCast, Nat.lt_irrefl, if_false, and_self, ncast, imp_self, in_self, in_self2, in_and, Int.cast_ofNat_Int, in_and2, ltB_t, ltB_f, leB_t, leB_f, eqB_t, eqB_f, ltNB_t, ltNB_f, leNB_t, leNB_f, eqNB_t, eqNB_f, noT, noF, Bool.and_eq_true, Bool.or_eq_true, Bool.and_eq_false_iff, Bool.or_eq_false_iff]
    all_goals exact ⟨rfl⟩
  · exact hs.elim

/-- plane.span, plane.Proper -/
def spanB (a b : Int) : Bool := inB a (-1048576) 1048576 && inB b a 1048576
def spSpan : Spec := fun args _ _ => match args with
  | [.agg [.i .i64 a, .i .i64 b]] => gives True (cbool (.sy fun _ => spanB a.val b.val))
  | _ => bad
theorem okSpan : SpecOk F0 Tryz.prog 109 spSpan := by
  refine spec_pure (e := en [(115, spWithin)]) (en_ok ⟨okWithin115, trivial⟩) rfl (fn := Tryz.f109) (c := fbody Tryz.f109) (by kernel_rfl) rfl rfl (by kernel_rfl) (fun _ _ _ _ => rfl) fun args M base hs => ?_
  unfold spSpan at hs ⊢
  split at hs
  · refine ⟨Nat.le_of_ble_eq_true rfl, rfl, rfl, rfl, rfl, fun B => ?_⟩
    cbv
    simp only [implies_true, and_true, true_and, IX.v_lit, IX.v_nat, IX.v_sy, BX.v_lit, BX.v_sy, NX.v_lit, NX.v_sy, addN, in_true, eq_self, Nat.succ_eq_add_one, intD_eq, encInt_le, encText_le, encSpan_le, encPair_le, encBox_le, encNote_le, encSight_le, cell_i_le, Nat.add_zero, Int.toNat_natCast, Nat.lt_irrefl, if_false, and_self, ncast, imp_self, in_self, in_self2, in_and, Int.cast_ofNat_Int, in_and2, ltB_t, ltB_f, leB_t, leB_f, eqB_t, eqB_f, ltNB_t, ltNB_f, leNB_t, leNB_f, eqNB_t, eqNB_f, noT, noF, Bool.and_eq_true, Bool.or_eq_true, Bool.and_eq_false_iff, Bool.or_eq_false_iff]
    all_goals exact ⟨rfl⟩
  · exact hs.elim
def properB (a b c d : Int) : Bool := spanB a b && spanB c d
def spProper : Spec := fun args _ _ => match args with
  | [.agg [.i .i64 a, .i .i64 b, .i .i64 c, .i .i64 d]] => gives True (cbool (.sy fun _ => properB a.val b.val c.val d.val))
  | _ => bad
theorem okProper : SpecOk F0 Tryz.prog 51 spProper := by
  refine spec_pure (e := en [(109, spSpan)]) (en_ok ⟨okSpan, trivial⟩) rfl (fn := Tryz.f51) (c := fbody Tryz.f51) (by kernel_rfl) rfl rfl (by kernel_rfl) (fun _ _ _ _ => rfl) fun args M base hs => ?_
  unfold spProper at hs ⊢
  split at hs
  · refine ⟨Nat.le_of_ble_eq_true rfl, rfl, rfl, rfl, rfl, fun B => ?_⟩
    cbv
    simp only [implies_true, and_true, true_and, IX.v_lit, IX.v_nat, IX.v_sy, BX.v_lit, BX.v_sy, NX.v_lit, NX.v_sy, addN, in_true, eq_self, Nat.succ_eq_add_one, intD_eq, encInt_le, encText_le, encSpan_le, encPair_le, encBox_le, encNote_le, encSight_le, cell_i_le, Nat.add_zero, Int.toNat_natCast, Nat.lt_irrefl, if_false, and_self, ncast, imp_self, in_self, in_self2, in_and, Int.cast_ofNat_Int, in_and2, ltB_t, ltB_f, leB_t, leB_f, eqB_t, eqB_f, ltNB_t, ltNB_f, leNB_t, leNB_f, eqNB_t, eqNB_f, noT, noF, Bool.and_eq_true, Bool.or_eq_true, Bool.and_eq_false_iff, Bool.or_eq_false_iff]
    all_goals exact ⟨rfl⟩
  · exact hs.elim
/-- ref02.Valid, ref02.Proper -/
def validB (a b : Int) : Bool := inB a (-1048576) 1048576 && inB b (-1048576) 1048576
def spValid : Spec := fun args _ _ => match args with
  | [.agg [.i .i64 a, .i .i64 b]] => gives True (cbool (.sy fun _ => validB a.val b.val))
  | _ => bad
theorem okValid60 : SpecOk F0 Tryz.prog 60 spValid := by
  refine spec_pure (e := en [(115, spWithin)]) (en_ok ⟨okWithin115, trivial⟩) rfl (fn := Tryz.f60) (c := fbody Tryz.f60) (by kernel_rfl) rfl rfl (by kernel_rfl) (fun _ _ _ _ => rfl) fun args M base hs => ?_
  unfold spValid at hs ⊢
  split at hs
  · refine ⟨Nat.le_of_ble_eq_true rfl, rfl, rfl, rfl, rfl, fun B => ?_⟩
    cbv
    simp only [implies_true, and_true, true_and, IX.v_lit, IX.v_nat, IX.v_sy, BX.v_lit, BX.v_sy, NX.v_lit, NX.v_sy, addN, in_true, eq_self, Nat.succ_eq_add_one, intD_eq, encInt_le, encText_le, encSpan_le, encPair_le, encBox_le, encNote_le, encSight_le, cell_i_le, Nat.add_zero, Int.toNat_natCast, Nat.lt_irrefl, if_false, and_self, ncast, imp_self, in_self, in_self2, in_and, Int.cast_ofNat_Int, in_and2, ltB_t, ltB_f, leB_t, leB_f, eqB_t, eqB_f, ltNB_t, ltNB_f, leNB_t, leNB_f, eqNB_t, eqNB_f, noT, noF, Bool.and_eq_true, Bool.or_eq_true, Bool.and_eq_false_iff, Bool.or_eq_false_iff]
    all_goals exact ⟨rfl⟩
  · exact hs.elim
theorem okValid : SpecOk F0 Tryz.prog 154 spValid := by
  refine spec_pure (e := en [(157, spWithin)]) (en_ok ⟨okWithin157, trivial⟩) rfl (fn := Tryz.f154) (c := fbody Tryz.f154) (by kernel_rfl) rfl rfl (by kernel_rfl) (fun _ _ _ _ => rfl) fun args M base hs => ?_
  unfold spValid at hs ⊢
  split at hs
  · refine ⟨Nat.le_of_ble_eq_true rfl, rfl, rfl, rfl, rfl, fun B => ?_⟩
    cbv
    simp only [implies_true, and_true, true_and, IX.v_lit, IX.v_nat, IX.v_sy, BX.v_lit, BX.v_sy, NX.v_lit, NX.v_sy, addN, in_true, eq_self, Nat.succ_eq_add_one, intD_eq, encInt_le, encText_le, encSpan_le, encPair_le, encBox_le, encNote_le, encSight_le, cell_i_le, Nat.add_zero, Int.toNat_natCast, Nat.lt_irrefl, if_false, and_self, ncast, imp_self, in_self, in_self2, in_and, Int.cast_ofNat_Int, in_and2, ltB_t, ltB_f, leB_t, leB_f, eqB_t, eqB_f, ltNB_t, ltNB_f, leNB_t, leNB_f, eqNB_t, eqNB_f, noT, noF, Bool.and_eq_true, Bool.or_eq_true, Bool.and_eq_false_iff, Bool.or_eq_false_iff]
    all_goals exact ⟨rfl⟩
  · exact hs.elim
theorem proper_twin (a b c d : Int) : properB a b c d = (validB a c && validB b d && decide (a ≤ b) && decide (c ≤ d)) := by
  rw [Bool.eq_iff_iff]
  simp only [properB, spanB, validB, inB, Bool.and_eq_true, decide_eq_true_eq]
  omega
theorem okProper102 : SpecOk F0 Tryz.prog 102 spProper := by
  refine spec_pure (e := en [(154, spValid)]) (en_ok ⟨okValid, trivial⟩) rfl (fn := Tryz.f102) (c := fbody Tryz.f102) (by kernel_rfl) rfl rfl (by kernel_rfl) (fun _ _ _ _ => rfl) fun args M base hs => ?_
  unfold spProper at hs ⊢
  split at hs
  · refine ⟨Nat.le_of_ble_eq_true rfl, rfl, rfl, rfl, rfl, fun B => ?_⟩
    cbv
    simp only [implies_true, and_true, true_and, IX.v_lit, IX.v_nat, IX.v_sy, BX.v_lit, BX.v_sy, NX.v_lit, NX.v_sy, addN, in_true, eq_self, Nat.succ_eq_add_one, intD_eq, encInt_le, encText_le, encSpan_le, encPair_le, encBox_le, encNote_le, encSight_le, cell_i_le, Nat.add_zero, Int.toNat_natCast, Nat.lt_irrefl, if_false, and_self, ncast, imp_self, in_self, in_self2, in_and, Int.cast_ofNat_Int, in_and2, ltB_t, ltB_f, leB_t, leB_f, eqB_t, eqB_f, ltNB_t, ltNB_f, leNB_t, leNB_f, eqNB_t, eqNB_f, noT, noF, Bool.and_eq_true, Bool.or_eq_true, Bool.and_eq_false_iff, Bool.or_eq_false_iff]
    rw [proper_twin]
    exact ⟨rfl⟩
  · exact hs.elim
/-- stone.CheckSight -/
def sightBad (id y a b c d : Int) (s : ByteArray) (lo hi : Int) : Bool := !(decide (1 ≤ id) && decide (id ≤ 1099511627776)) || !(decide (0 ≤ y) && decide (y ≤ 4000)) || !properB a b c d || !isPattern s true || decide (lo < 0) || decide (hi < lo) || decide (100 < hi)
def sightE (id y a b c d : Int) (s : ByteArray) (lo hi : Int) : Int := bif sightBad id y a b c d s lo hi then 1 else 0
def spSight : Spec := fun args _ _ => match args with
  | [.agg [.i .i64 id, .i .i64 y, .i .i64 a, .i .i64 b, .i .i64 c, .i .i64 d, .s s, .i .i64 lo, .i .i64 hi]] => gives True (cint .i64 (.sy fun _ => sightE id.val y.val a.val b.val c.val d.val (s ()) lo.val hi.val))
  | _ => bad
theorem okSight : SpecOk F0 Tryz.prog 42 spSight := by
  refine spec_pure (e := en [(51, spProper), (81, spWithin), (100, spPattern)]) (en_ok ⟨okProper, okWithin, okPattern, trivial⟩) rfl (fn := Tryz.f42) (c := fbody Tryz.f42) (by kernel_rfl) rfl rfl (by kernel_rfl) (fun _ _ _ _ => rfl) fun args M base hs => ?_
  unfold spSight at hs ⊢
  split at hs
  · refine ⟨Nat.le_of_ble_eq_true rfl, rfl, rfl, rfl, rfl, fun B => ?_⟩
    cbv
    simp only [implies_true, and_true, true_and, IX.v_lit, IX.v_nat, IX.v_sy, BX.v_lit, BX.v_sy, NX.v_lit, NX.v_sy, addN, in_true, eq_self, Nat.succ_eq_add_one, intD_eq, encInt_le, encText_le, encSpan_le, encPair_le, encBox_le, encNote_le, encSight_le, cell_i_le, Nat.add_zero, Int.toNat_natCast, Nat.lt_irrefl, if_false, and_self, ncast, imp_self, in_self, in_self2, in_and, Int.cast_ofNat_Int, in_and2, noT, noF]
    refine ⟨fun h => ?_, fun h => ?_⟩
    · cbv
      simp only [implies_true, and_true, true_and, IX.v_lit, IX.v_nat, IX.v_sy, BX.v_lit, BX.v_sy, NX.v_lit, NX.v_sy, addN, in_true, eq_self, Nat.succ_eq_add_one, intD_eq, encInt_le, encText_le, encSpan_le, encPair_le, encBox_le, encNote_le, encSight_le, cell_i_le, Nat.add_zero, Int.toNat_natCast, Nat.lt_irrefl, if_false, and_self, ncast, imp_self, in_self, in_self2, in_and, Int.cast_ofNat_Int, in_and2, ltB_t, ltB_f, leB_t, leB_f, eqB_t, eqB_f, ltNB_t, ltNB_f, leNB_t, leNB_f, eqNB_t, eqNB_f, noT, noF, Bool.and_eq_true, Bool.or_eq_true, Bool.and_eq_false_iff, Bool.or_eq_false_iff]
      have h : sightBad _ _ _ _ _ _ _ _ _ = true := h
      exact ⟨by unfold sightE; rw [h]; rfl⟩
    · cbv
      simp only [implies_true, and_true, true_and, IX.v_lit, IX.v_nat, IX.v_sy, BX.v_lit, BX.v_sy, NX.v_lit, NX.v_sy, addN, in_true, eq_self, Nat.succ_eq_add_one, intD_eq, encInt_le, encText_le, encSpan_le, encPair_le, encBox_le, encNote_le, encSight_le, cell_i_le, Nat.add_zero, Int.toNat_natCast, Nat.lt_irrefl, if_false, and_self, ncast, imp_self, in_self, in_self2, in_and, Int.cast_ofNat_Int, in_and2, ltB_t, ltB_f, leB_t, leB_f, eqB_t, eqB_f, ltNB_t, ltNB_f, leNB_t, leNB_f, eqNB_t, eqNB_f, noT, noF, Bool.and_eq_true, Bool.or_eq_true, Bool.and_eq_false_iff, Bool.or_eq_false_iff]
      have h : sightBad _ _ _ _ _ _ _ _ _ = false := h
      exact ⟨by unfold sightE; rw [h]; rfl⟩
  · exact hs.elim
end Go.Proofs.YthgllnnlngihoaaGreat.Sx
end
section
set_option linter.unusedVariables false
set_option linter.unusedSimpArgs false
set_option maxRecDepth 100000
namespace Go.Proofs.YthgllnnlngihoaaGreat.Sx
open Go.RowKit

def mixAt (p q : ByteArray) (i : Nat) : Int := if byteAt p i = 46 then byteAt q i else byteAt p i
theorem mixAt_byte (p q : ByteArray) (i : Nat) : 0 ≤ mixAt p q i ∧ mixAt p q i ≤ 255 := by
  have := byteAt_ge p i
  have := byteAt_le p i
  have := byteAt_ge q i
  have := byteAt_le q i
  unfold mixAt
  split <;> omega
def agreeAt (p q : ByteArray) (i : Nat) : Bool := decide (byteAt p i = 46) || decide (byteAt q i = 46) || decide (byteAt p i = byteAt q i)
def blendOk (p q : ByteArray) : Bool := isPattern p true && isPattern q true && decide (p.size = q.size) && (List.range p.size).all (agreeAt p q)
def blendS (p q : ByteArray) : ByteArray := bif blendOk p q then strOf p.size (fun i => [.i .u8 (.sy fun _ => mixAt p q i)]) else ⟨#[]⟩
def spBlend : Spec := fun args _ _ => match args with
  | [.one (.s p), .one (.s q)] => gives True (.tup [.one (.s (fun _ => (blendS (p ()) (q ())))), .one (.b (.sy fun _ => (blendOk (p ()) (q ()))))])
  | _ => bad
theorem okBlend : SpecOk F0 Tryz.prog 36 spBlend := by
  refine spec_pure (e := en [(100, spPattern)]) (en_ok ⟨okPattern, trivial⟩) rfl (fn := Tryz.f36) (c := fbody Tryz.f36) (by kernel_rfl) rfl rfl (by kernel_rfl) (fun _ _ _ _ => rfl) fun args M base hs => ?_
  unfold spBlend at hs ⊢
  split at hs
  · rename_i p q
    obtain ⟨p, rfl⟩ : ∃ t, p = fun _ => t := ⟨p (), rfl⟩
    obtain ⟨q, rfl⟩ : ∃ t, q = fun _ => t := ⟨q (), rfl⟩
    refine ⟨Nat.le_of_ble_eq_true rfl, rfl, rfl, rfl, rfl, fun B => ?_⟩
    cbv
    simp only [implies_true, and_true, true_and, IX.v_lit, IX.v_nat, IX.v_sy, BX.v_lit, BX.v_sy, NX.v_lit, NX.v_sy, addN, in_true, eq_self, Nat.succ_eq_add_one, intD_eq, encInt_le, encText_le, encSpan_le, encPair_le, encBox_le, encNote_le, encSight_le, cell_i_le, Nat.add_zero, Int.toNat_natCast, Nat.lt_irrefl, if_false, and_self, ncast, imp_self, in_self, in_self2, in_and, Int.cast_ofNat_Int, in_and2, ltB_t, ltB_f, leB_t, leB_f, eqB_t, eqB_f, ltNB_t, ltNB_f, leNB_t, leNB_f, eqNB_t, eqNB_f, noT, noF, Bool.and_eq_true, Bool.or_eq_true, Bool.and_eq_false_iff, Bool.or_eq_false_iff]
    refine ⟨fun h => ?_, fun h => ?_⟩
    · have hb : blendOk p q = false := by
        unfold blendOk
        rcases h with (h | h) | h <;> simp [*] at *
      cbv
      simp only [implies_true, and_true, true_and, IX.v_lit, IX.v_nat, IX.v_sy, BX.v_lit, BX.v_sy, NX.v_lit, NX.v_sy, addN, in_true, eq_self, Nat.succ_eq_add_one, intD_eq, encInt_le, encText_le, encSpan_le, encPair_le, encBox_le, encNote_le, encSight_le, cell_i_le, Nat.add_zero, Int.toNat_natCast, Nat.lt_irrefl, if_false, and_self, ncast, imp_self, in_self, in_self2, in_and, Int.cast_ofNat_Int, in_and2, ltB_t, ltB_f, leB_t, leB_f, eqB_t, eqB_f, ltNB_t, ltNB_f, leNB_t, leNB_f, eqNB_t, eqNB_f, noT, noF, Bool.and_eq_true, Bool.or_eq_true, Bool.and_eq_false_iff, Bool.or_eq_false_iff]
      refine ⟨⟨?_⟩, ⟨hb⟩⟩
      unfold blendS
      rw [hb]
      rfl
    · obtain ⟨⟨hp, hq⟩, hsz⟩ := h
      have hsz : p.size = q.size := by (first | omega | (simp only [ncast] at *; omega))
      have h8 : p.size ≤ 8 := by
        have := hp
        unfold isPattern at this
        simp only [Bool.and_eq_true, decide_eq_true_eq] at this
        omega
      cbv
      simp only [implies_true, and_true, true_and, IX.v_lit, IX.v_nat, IX.v_sy, BX.v_lit, BX.v_sy, NX.v_lit, NX.v_sy, addN, in_true, eq_self, Nat.succ_eq_add_one, intD_eq, encInt_le, encText_le, encSpan_le, encPair_le, encBox_le, encNote_le, encSight_le, cell_i_le, Nat.add_zero, Int.toNat_natCast, Nat.lt_irrefl, if_false, and_self, ncast, imp_self, in_self, in_self2, in_and, Int.cast_ofNat_Int, in_and2, ltB_t, ltB_f, leB_t, leB_f, eqB_t, eqB_f, ltNB_t, ltNB_f, leNB_t, leNB_f, eqNB_t, eqNB_f, noT, noF, Bool.and_eq_true, Bool.or_eq_true, Bool.and_eq_false_iff, Bool.or_eq_false_iff]
      refine ⟨⟨by omega⟩, {i : Nat // i ≤ p.size ∧ ∀ j, j < i → agreeAt p q j = true}, fun i => ⟨[(1, .lit true, .one (.s fun _ => q)), (6, .lit true, .one (.ref 0)), (26, .lit true, cint .i64 (.nat (fun _ => p.size) 0)), (27, .lit true, cint .i64 (.nat (fun _ => i.1) 0))], [(0, .row .mk 5 1 (.sy (fun _ => p.size) 0) fun e => [.i .u8 (.sy fun _ => if e < i.1 then mixAt p q e else byteAt p e)])], 1⟩, fun i => p.size - i.1, ⟨0, by omega, fun j hj => by omega⟩, LeBy.le (pins := []) (fun i u h => by cases h) (l := [(0, .old 0)]) ?_, fun i => ?_⟩
      · cbv
        simp only [implies_true, and_true, true_and, IX.v_lit, IX.v_nat, IX.v_sy, BX.v_lit, BX.v_sy, NX.v_lit, NX.v_sy, addN, in_true, eq_self, Nat.succ_eq_add_one, intD_eq, encInt_le, encText_le, encSpan_le, encPair_le, encBox_le, encNote_le, encSight_le, cell_i_le, Nat.add_zero, Int.toNat_natCast, Nat.lt_irrefl, if_false, and_self, ncast, imp_self, in_self, in_self2, in_and, Int.cast_ofNat_Int, in_and2, ltB_t, ltB_f, leB_t, leB_f, eqB_t, eqB_f, ltNB_t, ltNB_f, leNB_t, leNB_f, eqNB_t, eqNB_f, noT, noF, Bool.and_eq_true, Bool.or_eq_true, Bool.and_eq_false_iff, Bool.or_eq_false_iff]
        exact ⟨fun e _ => ⟨⟨trivial, ⟨rfl⟩⟩, trivial⟩⟩
      · obtain ⟨i, hi, hl⟩ := i
        cbv
        simp only [implies_true, and_true, true_and, IX.v_lit, IX.v_nat, IX.v_sy, BX.v_lit, BX.v_sy, NX.v_lit, NX.v_sy, addN, in_true, eq_self, Nat.succ_eq_add_one, intD_eq, encInt_le, encText_le, encSpan_le, encPair_le, encBox_le, encNote_le, encSight_le, cell_i_le, Nat.add_zero, Int.toNat_natCast, Nat.lt_irrefl, if_false, and_self, ncast, imp_self, in_self, in_self2, in_and, Int.cast_ofNat_Int, in_and2, ltB_t, ltB_f, leB_t, leB_f, eqB_t, eqB_f, ltNB_t, ltNB_f, leNB_t, leNB_f, eqNB_t, eqNB_f, noT, noF, Bool.and_eq_true, Bool.or_eq_true, Bool.and_eq_false_iff, Bool.or_eq_false_iff]
        refine ⟨fun hlt => ?_, fun hlt => ?_⟩
        · cbv
          simp only [implies_true, and_true, true_and, IX.v_lit, IX.v_nat, IX.v_sy, BX.v_lit, BX.v_sy, NX.v_lit, NX.v_sy, addN, in_true, eq_self, Nat.succ_eq_add_one, intD_eq, encInt_le, encText_le, encSpan_le, encPair_le, encBox_le, encNote_le, encSight_le, cell_i_le, Nat.add_zero, Int.toNat_natCast, Nat.lt_irrefl, if_false, and_self, ncast, imp_self, in_self, in_self2, in_and, Int.cast_ofNat_Int, in_and2, ltB_t, ltB_f, leB_t, leB_f, eqB_t, eqB_f, ltNB_t, ltNB_f, leNB_t, leNB_f, eqNB_t, eqNB_f, noT, noF, Bool.and_eq_true, Bool.or_eq_true, Bool.and_eq_false_iff, Bool.or_eq_false_iff]
          refine ⟨⟨hlt⟩, ⟨hlt⟩, fun h46 => ?_, fun h46 => ?_⟩
          · cbv
            simp only [implies_true, and_true, true_and, IX.v_lit, IX.v_nat, IX.v_sy, BX.v_lit, BX.v_sy, NX.v_lit, NX.v_sy, addN, in_true, eq_self, Nat.succ_eq_add_one, intD_eq, encInt_le, encText_le, encSpan_le, encPair_le, encBox_le, encNote_le, encSight_le, cell_i_le, Nat.add_zero, Int.toNat_natCast, Nat.lt_irrefl, if_false, and_self, ncast, imp_self, in_self, in_self2, in_and, Int.cast_ofNat_Int, in_and2, ltB_t, ltB_f, leB_t, leB_f, eqB_t, eqB_f, ltNB_t, ltNB_f, leNB_t, leNB_f, eqNB_t, eqNB_f, noT, noF, Bool.and_eq_true, Bool.or_eq_true, Bool.and_eq_false_iff, Bool.or_eq_false_iff]
            refine ⟨⟨by omega⟩, ⟨hlt⟩, ⟨hlt⟩, ⟨nat_fits hlt (by omega)⟩, ⟨i + 1, by omega, fun j hj => ?_⟩, LeBy.le (pins := []) (fun i u h => by cases h) (l := [(0, .old 0)]) ?_, by show p.size - (i + 1) < p.size - i; omega⟩
            · rcases Nat.lt_or_ge j i with h1 | h1
              · exact hl j h1
              · rw [show j = i by omega]
                unfold agreeAt
                simp [h46]
            · cbv
              simp only [implies_true, and_true, true_and, IX.v_lit, IX.v_nat, IX.v_sy, BX.v_lit, BX.v_sy, NX.v_lit, NX.v_sy, addN, in_true, eq_self, Nat.succ_eq_add_one, intD_eq, encInt_le, encText_le, encSpan_le, encPair_le, encBox_le, encNote_le, encSight_le, cell_i_le, Nat.add_zero, Int.toNat_natCast, Nat.lt_irrefl, if_false, and_self, ncast, imp_self, in_self, in_self2, in_and, Int.cast_ofNat_Int, in_and2, ltB_t, ltB_f, leB_t, leB_f, eqB_t, eqB_f, ltNB_t, ltNB_f, leNB_t, leNB_f, eqNB_t, eqNB_f, noT, noF, Bool.and_eq_true, Bool.or_eq_true, Bool.and_eq_false_iff, Bool.or_eq_false_iff]
              refine ⟨fun e he => ?_⟩
              by_cases hei : e = i
              · subst hei
                rw [if_pos rfl]
                refine ⟨⟨trivial, ⟨?_⟩⟩, trivial⟩
                show (if e < e + 1 then mixAt p q e else byteAt p e) = byteAt q e
                rw [if_pos (by omega)]
                unfold mixAt
                rw [if_pos h46]
              · rw [if_neg hei]
                refine ⟨⟨trivial, ⟨?_⟩⟩, trivial⟩
                show (if e < i + 1 then mixAt p q e else byteAt p e) = (if e < i then mixAt p q e else byteAt p e)
                by_cases h1 : e < i
                · rw [if_pos h1, if_pos (by omega)]
                · rw [if_neg h1, if_neg (by omega)]
          · cbv
            simp only [implies_true, and_true, true_and, IX.v_lit, IX.v_nat, IX.v_sy, BX.v_lit, BX.v_sy, NX.v_lit, NX.v_sy, addN, in_true, eq_self, Nat.succ_eq_add_one, intD_eq, encInt_le, encText_le, encSpan_le, encPair_le, encBox_le, encNote_le, encSight_le, cell_i_le, Nat.add_zero, Int.toNat_natCast, Nat.lt_irrefl, if_false, and_self, ncast, imp_self, in_self, in_self2, in_and, Int.cast_ofNat_Int, in_and2, ltB_t, ltB_f, leB_t, leB_f, eqB_t, eqB_f, ltNB_t, ltNB_f, leNB_t, leNB_f, eqNB_t, eqNB_f, noT, noF, Bool.and_eq_true, Bool.or_eq_true, Bool.and_eq_false_iff, Bool.or_eq_false_iff]
            refine ⟨⟨by omega⟩, fun _ => ⟨by omega⟩, fun _ => ⟨by omega⟩, fun _ => ⟨by omega⟩, fun hbad => ?_, fun hgood => ?_⟩
            · have hb : blendOk p q = false := by
                unfold blendOk
                have : (List.range p.size).all (agreeAt p q) = false := List.all_eq_false.2 ⟨i, List.mem_range.2 hlt, by
                  unfold agreeAt
                  simp [h46, hbad.1]
                  exact fun h => hbad.2 h.symm⟩
                rw [this, Bool.and_false]
              cbv
              simp only [implies_true, and_true, true_and, IX.v_lit, IX.v_nat, IX.v_sy, BX.v_lit, BX.v_sy, NX.v_lit, NX.v_sy, addN, in_true, eq_self, Nat.succ_eq_add_one, intD_eq, encInt_le, encText_le, encSpan_le, encPair_le, encBox_le, encNote_le, encSight_le, cell_i_le, Nat.add_zero, Int.toNat_natCast, Nat.lt_irrefl, if_false, and_self, ncast, imp_self, in_self, in_self2, in_and, Int.cast_ofNat_Int, in_and2, ltB_t, ltB_f, leB_t, leB_f, eqB_t, eqB_f, ltNB_t, ltNB_f, leNB_t, leNB_f, eqNB_t, eqNB_f, noT, noF, Bool.and_eq_true, Bool.or_eq_true, Bool.and_eq_false_iff, Bool.or_eq_false_iff]
              refine ⟨⟨?_⟩, ⟨hb⟩⟩
              unfold blendS
              rw [hb]
              rfl
            · have hag : agreeAt p q i = true := by
                unfold agreeAt
                simp only [Bool.or_eq_true, decide_eq_true_eq]
                omega
              cbv
              simp only [implies_true, and_true, true_and, IX.v_lit, IX.v_nat, IX.v_sy, BX.v_lit, BX.v_sy, NX.v_lit, NX.v_sy, addN, in_true, eq_self, Nat.succ_eq_add_one, intD_eq, encInt_le, encText_le, encSpan_le, encPair_le, encBox_le, encNote_le, encSight_le, cell_i_le, Nat.add_zero, Int.toNat_natCast, Nat.lt_irrefl, if_false, and_self, ncast, imp_self, in_self, in_self2, in_and, Int.cast_ofNat_Int, in_and2, ltB_t, ltB_f, leB_t, leB_f, eqB_t, eqB_f, ltNB_t, ltNB_f, leNB_t, leNB_f, eqNB_t, eqNB_f, noT, noF, Bool.and_eq_true, Bool.or_eq_true, Bool.and_eq_false_iff, Bool.or_eq_false_iff]
              refine ⟨⟨nat_fits hlt (by omega)⟩, ⟨i + 1, by omega, fun j hj => ?_⟩, LeBy.le (pins := []) (fun i u h => by cases h) (l := [(0, .old 0)]) ?_, by show p.size - (i + 1) < p.size - i; omega⟩
              · rcases Nat.lt_or_ge j i with h1 | h1
                · exact hl j h1
                · rw [show j = i by omega]
                  exact hag
              · cbv
                simp only [implies_true, and_true, true_and, IX.v_lit, IX.v_nat, IX.v_sy, BX.v_lit, BX.v_sy, NX.v_lit, NX.v_sy, addN, in_true, eq_self, Nat.succ_eq_add_one, intD_eq, encInt_le, encText_le, encSpan_le, encPair_le, encBox_le, encNote_le, encSight_le, cell_i_le, Nat.add_zero, Int.toNat_natCast, Nat.lt_irrefl, if_false, and_self, ncast, imp_self, in_self, in_self2, in_and, Int.cast_ofNat_Int, in_and2, ltB_t, ltB_f, leB_t, leB_f, eqB_t, eqB_f, ltNB_t, ltNB_f, leNB_t, leNB_f, eqNB_t, eqNB_f, noT, noF, Bool.and_eq_true, Bool.or_eq_true, Bool.and_eq_false_iff, Bool.or_eq_false_iff]
                refine ⟨fun e he => ⟨⟨trivial, ⟨?_⟩⟩, trivial⟩⟩
                show (if e < i + 1 then mixAt p q e else byteAt p e) = (if e < i then mixAt p q e else byteAt p e)
                by_cases h1 : e < i
                · rw [if_pos h1, if_pos (by omega)]
                · by_cases h2 : e = i
                  · subst h2
                    rw [if_neg h1, if_pos (by omega)]
                    unfold mixAt
                    rw [if_neg h46]
                  · rw [if_neg h1, if_neg (by omega)]
        · cbv
          simp only [implies_true, and_true, true_and, IX.v_lit, IX.v_nat, IX.v_sy, BX.v_lit, BX.v_sy, NX.v_lit, NX.v_sy, addN, in_true, eq_self, Nat.succ_eq_add_one, intD_eq, encInt_le, encText_le, encSpan_le, encPair_le, encBox_le, encNote_le, encSight_le, cell_i_le, Nat.add_zero, Int.toNat_natCast, Nat.lt_irrefl, if_false, and_self, ncast, imp_self, in_self, in_self2, in_and, Int.cast_ofNat_Int, in_and2, ltB_t, ltB_f, leB_t, leB_f, eqB_t, eqB_f, ltNB_t, ltNB_f, leNB_t, leNB_f, eqNB_t, eqNB_f, noT, noF, Bool.and_eq_true, Bool.or_eq_true, Bool.and_eq_false_iff, Bool.or_eq_false_iff]
          have hb : blendOk p q = true := by
            unfold blendOk
            simp only [hp, hq, hsz, decide_true, Bool.and_true, Bool.true_and]
            refine List.all_eq_true.2 fun j hj => hl j ?_
            have := List.mem_range.1 hj
            omega
          refine ⟨⟨fun n hn => ?_⟩, ⟨?_⟩, ⟨hb⟩⟩
          · have h1 := mixAt_byte p q n
            have h2 := byteAt_ge p n
            have h3 := byteAt_le p n
            have : 0 ≤ (if n < i then mixAt p q n else byteAt p n) ∧ (if n < i then mixAt p q n else byteAt p n) ≤ 255 := by split <;> omega
            exact ⟨rfl, this⟩
          · unfold blendS
            rw [hb]
            show strOf p.size _ = strOf p.size _
            unfold strOf
            refine congrArg (fun l : List UInt8 => ByteArray.mk l.toArray) (List.map_congr_left fun n hn => ?_)
            have := List.mem_range.1 hn
            show UInt8.ofNat (mixAt p q n).toNat = UInt8.ofNat (if n < i then mixAt p q n else byteAt p n).toNat
            rw [if_pos (by omega)]
  · exact hs.elim
end Go.Proofs.YthgllnnlngihoaaGreat.Sx
end
