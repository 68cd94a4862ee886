/- One state says no more than another: objects renamed, forgotten, only read from now on; Functions, whole; A function's meaning for its callers, from a proof about its text on its own; Calls that are entered in place; ranges over functions; Functions that hold a range over a function: a mark among what is deferred; The program's types, as operations look into them; The program at hand; how its text is computed with. -/
import Derived.RangeFuncLeaves
import Derived.Test.YthgllnnlngihoaaGreatProg
import Derived.KernelRfl
import Derived.Test.YthgllnnlngihoaaGreatSz03
section
set_option linter.unusedVariables false
set_option linter.unusedSimpArgs false
namespace Go.Proofs.YthgllnnlngihoaaGreat.Sx
open Go.RowKit

/-- Where an object of the new state comes from: an old one; the nil slice. -/
inductive Src where
  | old (j : Nat)
  | nil

abbrev Tau := List (Nat × Src)
def tget : Tau → Nat → Option Src
  | [], _ => none
  | (t, x) :: r, t' => if t = t' then some x else tget r t'

def eqIP : IX → IX → Prop
  | .lit a, .lit b => isT (decide (a = b))
  | .nat f k, .nat g m => In fun _ => g () + m = f () + k
  | x, y => In fun _ => y.val = x.val
theorem eqIP_iff {x y : IX} (h : eqIP x y) : y.val = x.val := by
  unfold eqIP at h
  split at h
  · exact (of_decide_eq_true (isT_iff.1 h)).symm
  · have := h.ok; simp only [IX.val, addN_eq]; omega
  · exact h.ok
def eqBP : BX → BX → Prop
  | .lit a, .lit b => isT (match a with
    | true => b
    | false => !b)
  | x, y => In fun _ => y.val = x.val
theorem eqBP_iff {x y : BX} (h : eqBP x y) : y.val = x.val := by
  unfold eqBP at h
  split at h
  · rename_i a b; cases a <;> cases b <;> first | rfl | exact h.elim
  · exact h.ok
def impB : Bool → Bool → Bool
  | true, b => b
  | false, _ => true
theorem impB_iff {a b : Bool} (h : isT (impB a b)) : a = true → b = true := by
  intro ha
  subst ha
  exact isT_iff.1 h
/-- A cell of the old state, as the new one has it. -/
def CvLe (τ : Nat → Option Src) : CV → CV → Prop
  | _, .top => True
  | .c v, .c v' => v' = v
  | .i k x, .i k' y => isT (eqK k k') ∧ eqIP x y
  | .b x, .b y => eqBP x y
  | .s f, .s g => In fun _ => g () = f ()
  | .ref j, .ref i => τ i = some (.old j)
  | .c v, .ref i => τ i = some .nil ∧ v = .slice none 0 0
  | .ptr j e o k, .ptr i e' o' k' => τ i = some (.old j) ∧ isT (Nat.beq o' o) ∧ isT (Nat.beq k' k) ∧ eqN e' e
  | .sub j s n k, .sub i s' n' k' => τ i = some (.old j) ∧ isT (Nat.beq k' k) ∧ eqN s' s ∧ eqN n' n
  | .cut j n, .cut i n' => τ i = some (.old j) ∧ eqN n' n
  | _, _ => False
def TvLe (τ : Nat → Option Src) : TV → TV → Prop
  | .one x, .one y => CvLe τ x y
  | .agg l, .agg m => All2 (CvLe τ) l m
  | _, _ => False
def IvLe (τ : Nat → Option Src) : IV → IV → Prop
  | .one x, .one y => CvLe τ x y
  | .agg l, .agg m => All2 (CvLe τ) l m
  | .tup l, .tup m => All2 (TvLe τ) l m
  | _, _ => False
def mdLe : Md → Md → Prop
  | _, .ro => True
  | .own, .own => True
  | .mk, .mk => True
  | _, _ => False
def ObLe (τ : Nat → Option Src) : Ob → Ob → Prop
  | _, .dead => True
  | .row md t k len get, .row md' t' k' len' get' => mdLe md md' ∧ isT (Nat.beq t' t) ∧ isT (Nat.beq k' k) ∧ eqN len' len ∧ In fun _ => ∀ e, e < len.val → All2 (CvLe τ) (get e) (get' e)
  | .box o t cs, .box o' t' cs' => isT (impB o' o) ∧ isT (Nat.beq t' t) ∧ All2 (CvLe τ) cs cs'
  | .clo f a b, .clo f' a' b' => f' = f ∧ All2 (CvLe τ) a a' ∧ All2 (CvLe τ) b b'
  | .obj o, .obj o' => o' = o
  | _, _ => False
def NilOb : Ob → Prop
  | .row .own _ k len _ => isT (Nat.blt 0 k) ∧ eqN len (.lit 0)
  | .row .ro _ k len _ => isT (Nat.blt 0 k) ∧ eqN len (.lit 0)
  | _ => False

def renOf (τ : Nat → Option Src) (σ : Ren) : Ren := fun i => match τ i with
  | some (.old j) => σ j
  | some .nil => some (.slice none 0 0)
  | none => none

section
variable {τ : Nat → Option Src} {σ : Ren}

theorem CvLe.ok {c c' : CV} {v : Value} (h : CvLe τ c c') (hv : CR σ c v) : CR (renOf τ σ) c' v := by
  have ren : ∀ {i j}, τ i = some (.old j) → renOf τ σ i = σ j := fun {i j} e => by simp only [renOf, e]
  refine ⟨hv.1, ?_⟩
  have hv := hv.2
  cases c' with
  | top => trivial
  | c v' => cases c with
    | c u => have : v = u := hv; subst this; exact h.symm
    | _ => exact h.elim
  | i k' y => cases c with
    | i k x =>
      obtain ⟨h1, h2⟩ := h
      show v = .int k' y.val
      rw [eqIP_iff h2, ← eqK_iff (isT_iff.1 h1)]
      exact hv
    | _ => exact h.elim
  | b y => cases c with
    | b x => show v = .bool y.val; rw [eqBP_iff h]; exact hv
    | _ => exact h.elim
  | s g => cases c with
    | s f => show v = .string (g ()); rw [In.ok h]; exact hv
    | _ => exact h.elim
  | ref i => cases c with
    | c u =>
      obtain ⟨h1, h2⟩ := h
      have : v = u := hv
      subst this
      show renOf τ σ i = some v
      simp only [renOf, h1, h2]
    | ref j => show renOf τ σ i = some v; rw [ren h]; exact hv
    | _ => exact h.elim
  | ptr i e o k => cases c with
    | ptr j e' o' k' =>
      obtain ⟨h1, ho, hk, he⟩ := h
      obtain rfl := Nat.eq_of_beq_eq_true (isT_iff.1 ho)
      obtain rfl := Nat.eq_of_beq_eq_true (isT_iff.1 hk)
      obtain ⟨hv', b, o2, a1, a2⟩ := hv
      show ∃ hv b o, _
      rw [eqN_iff he]
      exact ⟨hv', b, o2, (ren h1).trans a1, a2⟩
    | _ => exact h.elim
  | sub i s n k => cases c with
    | sub j s' n' k' =>
      obtain ⟨h1, hk, hs, hn⟩ := h
      obtain rfl := Nat.eq_of_beq_eq_true (isT_iff.1 hk)
      obtain ⟨hv', A, c, a1, a2⟩ := hv
      show ∃ hv A c, _
      rw [eqN_iff hs, eqN_iff hn]
      exact ⟨hv', A, c, (ren h1).trans a1, a2⟩
    | _ => exact h.elim
  | cut i n => cases c with
    | cut j n' =>
      obtain ⟨h1, hn⟩ := h
      obtain ⟨a, L, c, a1, a2⟩ := hv
      show ∃ a L c, _
      rw [eqN_iff hn]
      exact ⟨a, L, c, (ren h1).trans a1, a2⟩
    | _ => exact h.elim

theorem All2.trans' {α β γ : Type} {R : α → γ → Prop} {Q : α → β → Prop} {S : β → γ → Prop} (h : ∀ a b c, Q a b → R a c → S b c) : ∀ {l : List α} {m : List β} {n : List γ}, All2 Q l m → All2 R l n → All2 S m n
  | [], [], [], _, _ => trivial
  | _ :: _, _ :: _, _ :: _, h1, h2 => ⟨h _ _ _ h1.1 h2.1, All2.trans' h h1.2 h2.2⟩
  | [], _ :: _, _, h1, _ => h1.elim
  | _ :: _, [], _, h1, _ => h1.elim
  | [], [], _ :: _, _, h2 => h2.elim
  | _ :: _, _ :: _, [], _, h2 => h2.elim

theorem cells_ok {l m : List CV} {vs : List Value} (h : All2 (CvLe τ) l m) (hv : All2 (CR σ) l vs) : All2 (CR (renOf τ σ)) m vs := All2.trans' (fun _ _ _ a b => a.ok b) h hv
theorem TvLe.ok {x y : TV} {v : Value} (h : TvLe τ x y) (hv : TR σ x v) : TR (renOf τ σ) y v := by
  cases x <;> cases y <;> first | exact h.elim | skip
  · exact CvLe.ok h hv
  · obtain ⟨vs, rfl, ha⟩ := hv; exact ⟨vs, rfl, cells_ok h ha⟩
theorem IvLe.ok {x y : IV} {v : Value} (h : IvLe τ x y) (hv : IR σ x v) : IR (renOf τ σ) y v := by
  cases x <;> cases y <;> first | exact h.elim | skip
  · exact CvLe.ok h hv
  · obtain ⟨vs, rfl, ha⟩ := hv; exact ⟨vs, rfl, cells_ok h ha⟩
  · obtain ⟨vs, rfl, ha⟩ := hv; exact ⟨vs, rfl, All2.trans' (fun _ _ _ a b => a.ok b) h ha⟩

theorem row_ok {rd : Nat → Option Value} {k len : Nat} {get get' : Nat → List CV} (h : ∀ e, e < len → All2 (CvLe τ) (get e) (get' e)) (hr : RowAt σ rd k len get) : RowAt (renOf τ σ) rd k len get' := by
  intro e he
  obtain ⟨h1, h2⟩ := hr e he
  have ha := h e he
  refine ⟨ha.length.symm.trans h1, fun j c hj => ?_⟩
  have hlt : j < (get e).length := by
    have := (List.getElem?_eq_some_iff.1 hj).1
    rw [← ha.length] at this
    exact this
  obtain ⟨c', hc', hle⟩ := ha.get j (get e)[j] (by simp [hlt])
  rw [hj] at hc'
  cases hc'
  obtain ⟨v, hv, hcr⟩ := h2 j (get e)[j] (by simp [hlt])
  exact ⟨v, hv, hle.ok hcr⟩

theorem cell_at {w : World} {g : Nat} {cur : Array Value} {t : TypeId} {fr : Nat × Nat} (h : w.heap[g]? = some (.cells cur t fr)) (n : Nat) : w.cell? ⟨g, n, none⟩ = cur[n]? := by
  unfold World.cell?
  rw [h]
  simp

theorem ObLe.ok {w : World} {ob ob' : Ob} {hv : Value} (h : ObLe τ ob ob') (hr : ObRel σ w ob hv) : ObRel (renOf τ σ) w ob' hv := by
  cases ob' with
  | dead => trivial
  | row md' t' k' len' get' => cases ob with
    | row md t k len get =>
      obtain ⟨hm, ht, hk, hlen, hg⟩ := h
      obtain rfl := Nat.eq_of_beq_eq_true (isT_iff.1 ht)
      obtain rfl := Nat.eq_of_beq_eq_true (isT_iff.1 hk)
      have hg := hg.ok
      have hlen := eqN_iff hlen
      have hr : RowRel σ w md t' k' len.val get hv := hr
      show RowRel (renOf τ σ) w md' t' k' len'.val get' hv
      rw [hlen]
      generalize len.val = len at *
      cases md' with
      | ro =>
        cases md with
        | ro => obtain ⟨A, c, e, h1, h2, h3, h4⟩ := hr; exact ⟨A, c, e, h1, h2, h3, fun hl => let ⟨b, o, e, hra⟩ := h4 hl; ⟨b, o, e, row_ok hg hra⟩⟩
        | own =>
          obtain ⟨h0, ⟨e, hl⟩ | ⟨g, cap, cur, e, hg', h1, h2, h3, hra⟩⟩ := hr
          · subst hl; exact ⟨none, 0, e, Nat.le_refl _, Nat.zero_le _, h0, fun hl => by omega⟩
          · exact ⟨_, cap, e, h1, h2, h0, fun _ => ⟨g, 0, rfl, row_ok hg fun e he => ⟨(hra e he).1, fun j c hj => by
              obtain ⟨v, a1, a2⟩ := (hra e he).2 j c hj
              refine ⟨v, ?_, a2⟩
              rw [Nat.zero_add]
              exact (cell_at hg' _).trans a1⟩⟩⟩
        | mk =>
          obtain ⟨h0, g, cap, cur, fr, e, hg', h1, h2, h2', h3, hra⟩ := hr
          exact ⟨_, cap, e, h2, h2', h0, fun _ => ⟨g, 0, rfl, row_ok hg fun e he => ⟨(hra e he).1, fun j c hj => by
              obtain ⟨v, a1, a2⟩ := (hra e he).2 j c hj
              refine ⟨v, ?_, a2⟩
              rw [Nat.zero_add]
              exact (cell_at hg' _).trans a1⟩⟩⟩
      | own =>
        cases md with
        | own =>
          obtain ⟨h0, ⟨e, hl⟩ | ⟨g, cap, cur, e, hg', h1, h2, h3, hra⟩⟩ := hr
          · exact ⟨h0, .inl ⟨e, hl⟩⟩
          · exact ⟨h0, .inr ⟨g, cap, cur, e, hg', h1, h2, h3, row_ok hg hra⟩⟩
        | _ => exact hm.elim
      | mk =>
        cases md with
        | mk => obtain ⟨h0, g, cap, cur, fr, e, hg', h1, h2, h2', h3, hra⟩ := hr; exact ⟨h0, g, cap, cur, fr, e, hg', h1, h2, h2', h3, row_ok hg hra⟩
        | _ => exact hm.elim
    | _ => exact h.elim
  | box o' t' cs' => cases ob with
    | box o t cs =>
      obtain ⟨ho, ht, ha⟩ := h
      obtain rfl := Nat.eq_of_beq_eq_true (isT_iff.1 ht)
      have ho := impB_iff ho
      cases o' with
      | true =>
        have := ho rfl
        subst this
        obtain ⟨g, vs, e, h1, h2⟩ := hr
        exact ⟨g, vs, e, h1, cells_ok ha h2⟩
      | false =>
        have key : ∃ b off, hv = .pointer (some ⟨b, off, none⟩) ∧ ∀ (j : Nat) c, cs[j]? = some c → ∃ v, w.cell? ⟨b, off + j, none⟩ = some v ∧ CR σ c v := by
          cases o with
          | false => exact hr
          | true =>
            obtain ⟨g, vs, e, h1, h2⟩ := hr
            refine ⟨g, 0, e, fun j c hj => ?_⟩
            obtain ⟨v, hv, hcr⟩ := h2.get j c hj
            exact ⟨v, by rw [Nat.zero_add]; exact (cell_at h1 _).trans (by simpa using hv), hcr⟩
        obtain ⟨b, off, e, hc⟩ := key
        refine ⟨b, off, e, fun j c hj => ?_⟩
        have hlt : j < cs.length := by
          have := (List.getElem?_eq_some_iff.1 hj).1
          rw [← ha.length] at this
          exact this
        obtain ⟨c', hc', hle⟩ := ha.get j cs[j] (by simp [hlt])
        rw [hj] at hc'
        cases hc'
        obtain ⟨v, hv, hcr⟩ := hc j cs[j] (by simp [hlt])
        exact ⟨v, hv, hle.ok hcr⟩
    | _ => exact h.elim
  | clo f' a' b' => cases ob with
    | clo f a b => obtain ⟨rfl, h1, h2⟩ := h; obtain ⟨x, y, e, k1, k2⟩ := hr; exact ⟨x, y, e, cells_ok h1 k1, cells_ok h2 k2⟩
    | _ => exact h.elim
  | obj o' => cases ob with
    | obj o => have : o' = o := h; subst this; exact hr
    | _ => exact h.elim

theorem ObLe.own {ob ob' : Ob} (h : ObLe τ ob ob') (ho : ob'.own = true) : ob.own = true := by
  cases ob' with
  | row md' _ _ _ _ => cases ob with
    | row md _ _ _ _ =>
      have := h.1
      cases md <;> cases md' <;> first | rfl | exact this.elim | (simp [Ob.own] at ho)
    | _ => exact h.elim
  | box o' _ _ => cases ob with
    | box o _ _ => exact impB_iff h.1 ho
    | _ => exact h.elim
  | clo _ _ _ => simp [Ob.own] at ho
  | dead => simp [Ob.own] at ho
  | obj _ => cases ob with
    | obj _ => rfl
    | _ => exact h.elim
theorem ObLe.occ {ob ob' : Ob} (h : ObLe τ ob ob') (ho : ob'.occ) : ob.occ := by
  cases ob' with
  | row md' _ _ len' _ => cases ob with
    | row md _ _ len _ =>
      obtain ⟨hm, _, _, hlen, _⟩ := h
      have hlen := eqN_iff hlen
      cases md <;> cases md' <;> first | exact hm.elim | trivial | (show 0 < len.val; rw [← hlen]; exact ho)
    | _ => exact h.elim
  | box o' _ cs' => cases ob with
    | box o _ cs =>
      obtain ⟨hm, _, ha⟩ := h
      have hm := impB_iff hm
      cases o with
      | true => trivial
      | false =>
        cases o' with
        | true => simp at hm
        | false =>
          have := ha.length
          have ho : 0 < cs'.length := ho
          show 0 < cs.length
          omega
    | _ => exact h.elim
  | clo _ _ _ => exact ho.elim
  | dead => exact ho.elim
  | obj _ => cases ob with
    | obj _ => trivial
    | _ => exact h.elim
end

/-- Memory, renamed. -/
structure MemLe (τ : Nat → Option Src) (M M' : Mem) : Prop where
  old : ∀ i j, τ i = some (.old j) → ∃ ob ob', M j = some ob ∧ M' i = some ob' ∧ ObLe τ ob ob'
  nil : ∀ i, τ i = some .nil → ∃ ob', M' i = some ob' ∧ NilOb ob'
  inj : ∀ i i' j, τ i = some (.old j) → τ i' = some (.old j) → i = i'

theorem MemLe.sim {τ : Nat → Option Src} {M M' : Mem} (h : MemLe τ M M') {B : Nat} {O : Nat → Prop} {σ : Ren} {w : World} (hs : Sim B O σ M w) : Sim B O (renOf τ σ) M' w := by
  have split : ∀ i hv ob', renOf τ σ i = some hv → M' i = some ob' → (∃ j ob, τ i = some (.old j) ∧ σ j = some hv ∧ M j = some ob ∧ ObLe τ ob ob') ∨ (τ i = some .nil ∧ hv = .slice none 0 0 ∧ NilOb ob') := by
    intro i hv ob' hi hM
    cases ht : τ i with
    | none => simp only [renOf, ht] at hi; cases hi
    | some src => cases src with
      | old j =>
        simp only [renOf, ht] at hi
        obtain ⟨ob, ob2, h1, h2, h3⟩ := h.old i j ht
        rw [hM] at h2
        cases h2
        exact .inl ⟨j, ob, rfl, hi, h1, h3⟩
      | nil =>
        simp only [renOf, ht] at hi
        obtain ⟨ob2, h2, h3⟩ := h.nil i ht
        rw [hM] at h2
        cases h2
        cases hi
        exact .inr ⟨rfl, rfl, h3⟩
  refine ⟨fun i hv hi => ?_, fun i i' hi hi' oi oi' b hne si si' mi mi' ho hocc bi bi' => ?_, fun i hi oi b si mi ho bi => ?_, hs.size⟩
  · cases ht : τ i with
    | none => simp only [renOf, ht] at hi; cases hi
    | some src => cases src with
      | old j =>
        obtain ⟨ob, ob', h1, h2, h3⟩ := h.old i j ht
        simp only [renOf, ht] at hi
        obtain ⟨ob2, h4, h5⟩ := hs.ob j hv hi
        rw [h1] at h4
        cases h4
        exact ⟨ob', h2, h3.ok h5⟩
      | nil =>
        obtain ⟨ob', h2, h3⟩ := h.nil i ht
        simp only [renOf, ht] at hi
        cases hi
        refine ⟨ob', h2, ?_⟩
        cases ob' with
        | row md t k len get => cases md with
          | own => obtain ⟨h0, hl⟩ := h3; have hl : len.val = 0 := eqN_iff hl; exact ⟨Nat.le_of_ble_eq_true (isT_iff.1 h0), .inl ⟨rfl, hl⟩⟩
          | ro => obtain ⟨h0, hl⟩ := h3; have hl : len.val = 0 := eqN_iff hl; exact ⟨none, 0, by rw [hl], by omega, Nat.zero_le _, Nat.le_of_ble_eq_true (isT_iff.1 h0), fun hl => by omega⟩
          | mk => exact h3.elim
        | _ => exact h3.elim
  · rcases split i hi oi si mi with ⟨j, ob, t1, s1, m1, l1⟩ | ⟨_, rfl, _⟩
    · rcases split i' hi' oi' si' mi' with ⟨j', ob2, t2, s2, m2, l2⟩ | ⟨_, rfl, _⟩
      · have hjj : j ≠ j' := fun e => by subst e; exact hne (h.inj i i' j t1 t2)
        exact hs.sep j j' hi hi' ob ob2 b hjj s1 s2 m1 m2 (l1.own ho) (l2.occ hocc) bi bi'
      · simp [blkOf, addrOf] at bi'
    · simp [blkOf, addrOf] at bi
  · rcases split i hi oi si mi with ⟨j, ob, t1, s1, m1, l1⟩ | ⟨_, rfl, _⟩
    · exact hs.own j hi ob b s1 m1 (l1.own ho) bi
    · simp [blkOf, addrOf] at bi

/-! ### .. checked on lists -/
def srcLe (τ : Nat → Option Src) (M M' : Mem) (i : Nat) : Src → Prop
  | .old j => match M j, M' i with
    | some ob, some ob' => ObLe τ ob ob'
    | _, _ => False
  | .nil => match M' i with
    | some ob' => NilOb ob'
    | none => False
def memLeL (τ : Nat → Option Src) (M M' : Mem) : Tau → Prop
  | [] => True
  | (i, s) :: r => srcLe τ M M' i s ∧ memLeL τ M M' r
def olds : Tau → List Nat
  | [] => []
  | (_, .old j) :: r => j :: olds r
  | (_, .nil) :: r => olds r
def notIn (x : Nat) : List Nat → Bool
  | [] => true
  | y :: r => match Nat.beq x y with
    | true => false
    | false => notIn x r
theorem notIn_iff {x : Nat} : ∀ {l : List Nat}, notIn x l = true → x ∉ l
  | [], _ => by simp
  | y :: r, h => by
    unfold notIn at h
    split at h
    · cases h
    · rename_i hb
      intro hm
      rcases List.mem_cons.1 hm with e | hm
      · subst e; simp at hb
      · exact notIn_iff h hm
def distinct : List Nat → Bool
  | [] => true
  | x :: r => notIn x r && distinct r
def slotLe (τ : Nat → Option Src) (S : Slots) (t : Tmp) (x : BX × IV) : Prop := match S t with
  | some (p, iv) => eqBP p x.1 ∧ impX x.1 (IvLe τ iv x.2)
  | none => False
def slotsLe (τ : Nat → Option Src) (S : Slots) : SL → Prop
  | [] => True
  | (t, x) :: r => slotLe τ S t x ∧ slotsLe τ S r
def idsLt (b : Nat) : Tau → Bool
  | [] => true
  | (i, _) :: r => Nat.blt i b && idsLt b r
/-- Pinned objects keep their names. -/
def pinLe (τ : Nat → Option Src) : List Nat → Prop
  | [] => True
  | i :: r => τ i = some (.old i) ∧ pinLe τ r

theorem tget_mem : ∀ {l : Tau} {i : Nat} {s : Src}, tget l i = some s → (i, s) ∈ l
  | (t, x) :: r, i, s, h => by
    simp only [tget] at h
    split at h
    · rename_i e; cases h; subst e; exact List.mem_cons_self ..
    · exact List.mem_cons_of_mem _ (tget_mem h)
  | [], _, _, h => by cases h
theorem memLeL_mem {τ : Nat → Option Src} {M M' : Mem} : ∀ {l : Tau}, memLeL τ M M' l → ∀ i s, (i, s) ∈ l → srcLe τ M M' i s
  | (t, x) :: r, h, i, s, hm => by
    rcases List.mem_cons.1 hm with e | hm
    · cases e; exact h.1
    · exact memLeL_mem h.2 i s hm
  | [], _, _, _, hm => by cases hm
theorem olds_mem : ∀ {l : Tau} {i j : Nat}, (i, Src.old j) ∈ l → j ∈ olds l
  | (t, x) :: r, i, j, hm => by
    rcases List.mem_cons.1 hm with e | hm
    · cases e; exact List.mem_cons_self ..
    · have := olds_mem hm
      cases x with
      | old j' => exact List.mem_cons_of_mem _ this
      | nil => exact this
  | [], _, _, hm => by cases hm
theorem olds_inj : ∀ {l : Tau}, distinct (olds l) = true → ∀ {i i' j : Nat}, (i, Src.old j) ∈ l → (i', Src.old j) ∈ l → i = i'
  | (t, x) :: r, hd, i, i', j, h1, h2 => by
    cases x with
    | old j' =>
      simp only [olds, distinct, Bool.and_eq_true] at hd
      have nin : j' ∉ olds r := notIn_iff hd.1
      rcases List.mem_cons.1 h1 with e1 | k1 <;> rcases List.mem_cons.1 h2 with e2 | k2
      · cases e1; cases e2; rfl
      · cases e1; exact (nin (olds_mem k2)).elim
      · cases e2; exact (nin (olds_mem k1)).elim
      · exact olds_inj hd.2 k1 k2
    | nil =>
      simp only [olds] at hd
      rcases List.mem_cons.1 h1 with e1 | k1
      · cases e1
      · rcases List.mem_cons.1 h2 with e2 | k2
        · cases e2
        · exact olds_inj hd k1 k2
  | [], _, _, _, _, h1, _ => by cases h1
theorem slotsLe_get {τ : Nat → Option Src} {S : Slots} : ∀ {l : SL}, slotsLe τ S l → ∀ t x, l.get t = some x → slotLe τ S t x
  | (t', x') :: r, h, t, x, hg => by
    simp only [SL.get] at hg
    split at hg
    · rename_i e; cases hg; subst e; exact h.1
    · exact slotsLe_get h.2 t x hg
  | [], _, _, _, hg => by cases hg
theorem idsLt_mem {b : Nat} : ∀ {l : Tau}, idsLt b l = true → ∀ i s, (i, s) ∈ l → i < b
  | (t, x) :: r, h, i, s, hm => by
    simp only [idsLt, Bool.and_eq_true] at h
    rcases List.mem_cons.1 hm with e | hm
    · cases e; exact Nat.le_of_ble_eq_true h.1
    · exact idsLt_mem h.2 i s hm
  | [], _, _, _, hm => by cases hm

/-- The check. -/
def LeBy (pins : List Nat) (l : Tau) (st st' : St) : Prop :=
  isT (distinct (olds l) && idsLt st'.base l) ∧ pinLe (tget l) pins ∧ memLeL (tget l) (lget st.M) (lget st'.M) l ∧ slotsLe (tget l) st.S.get st'.S

theorem LeBy.le {X : Cx} {pins : List Nat} (hp : ∀ i u, X.π i = some u → i ∈ pins) {l : Tau} {st st' : St} (h : LeBy pins l st st') (hmk : X.df = none := by rfl) : Le X st st' := by
  obtain ⟨hd, hpin, hm, hs⟩ := h
  have hd := isT_iff.1 hd
  rw [Bool.and_eq_true] at hd
  intro σ a w hat
  have hM : MemLe (tget l) (lget st.M) (lget st'.M) := by
    refine ⟨fun i j ht => ?_, fun i ht => ?_, fun i i' j h1 h2 => olds_inj hd.1 (tget_mem h1) (tget_mem h2)⟩
    · have := memLeL_mem hm i _ (tget_mem ht)
      simp only [srcLe] at this
      split at this
      · rename_i ob ob' e1 e2; exact ⟨ob, ob', e1, e2, this⟩
      · exact this.elim
    · have := memLeL_mem hm i _ (tget_mem ht)
      simp only [srcLe] at this
      split at this
      · rename_i ob' e2; exact ⟨ob', e2, this⟩
      · exact this.elim
  refine ⟨renOf (tget l) σ, ?_, hM.sim hat.sim, fun i u hu => ?_, fun i u hu => ?_, hat.size, .inl (show DefOk none σ a.defers from hmk ▸ hat.defers).none⟩
  · intro t
    cases hg : st'.S.get t with
    | none => trivial
    | some x =>
      obtain ⟨p', iv'⟩ := x
      have h1 := slotsLe_get hs t _ hg
      have h2 := hat.slots t
      unfold slotLe at h1
      split at h1
      · rename_i p iv e
        rw [e] at h2
        obtain ⟨e2, h3⟩ := h1
        simp only at e2 h3
        have e2 := eqBP_iff e2
        exact ⟨fun hp => (impX_iff.1 h3 hp).ok (h2.1 (e2 ▸ hp)), fun hp => h2.2 (e2 ▸ hp)⟩
      · exact h1.elim
  · cases ht : tget l i with
    | none => simp only [renOf, ht] at hu; cases hu
    | some s => exact idsLt_mem hd.2 i s (tget_mem ht)
  · have hin := hp i u hu
    have : tget l i = some (.old i) := by
      have go : ∀ ps : List Nat, pinLe (tget l) ps → i ∈ ps → tget l i = some (.old i) := by
        intro ps
        induction ps with
        | nil => intro _ h; cases h
        | cons x r ih =>
          intro h hm
          rcases List.mem_cons.1 hm with e | hm
          · subst e; exact h.1
          · exact ih h.2 hm
      exact go pins hpin hin
    simp only [renOf, this]
    exact hat.pin i u hu
end Go.Proofs.YthgllnnlngihoaaGreat.Sx
end
section
set_option linter.unusedVariables false
set_option linter.unusedSimpArgs false
namespace Go.Proofs.YthgllnnlngihoaaGreat.Sx
open Go.RowKit

/-! ### Results -/
def resI (T : Tab) (S : Slots) (M : Mem) : ResultVar → Out
  | .tmp t => gives (isLit (evS S (.tmp t)).1) (evS S (.tmp t)).2
  | .cell a t => (loadI T M t (evS S (.tmp a)).2).also (isLit (evS S (.tmp a)).1)
def tvOf : IV → TV
  | .one x => .one x
  | .agg l => .agg l
  | .tup _ => .one .top
def sidesP : List Out → Prop
  | [] => True
  | o :: r => o.side ∧ o.r.plain ∧ sidesP r
def resultI (T : Tab) (rs : List ResultVar) (S : Slots) (M : Mem) : Prop × IV := match rs.map (resI T S M) with
  | [o] => (o.side, o.r)
  | l => (sidesP l, .tup (l.map fun o => tvOf o.r))

def resSem (tmps : Array Value) : ResultVar → Sem Value
  | .tmp t => pure (tmps.getD t undef)
  | .cell b t => do loadVar t (← asAddr (tmps.getD b undef))
theorem results_eq (fn : Func) (tmps : Array Value) : results fn tmps = (do
    let vs ← fn.results.mapM (resSem tmps)
    pure (if h : vs.size = 1 then vs[0] else .tuple vs)) := by
  have : (resSem tmps) = (fun
    | .tmp t => pure (tmps.getD t undef)
    | .cell a t => do loadVar t (← asAddr (tmps.getD a undef)) : ResultVar → Sem Value) := by
    funext x
    cases x <;> rfl
  rw [this]
  rfl

section
variable {P : Program} {T : Tab} {X : Cx} {σ : Ren} {st : St} {a : Act} {w : World}

theorem resI_ok (hT : TabOk P T) (hat : At X σ st a w) {rv : ResultVar} (hs : (resI T st.S.get (lget st.M) rv).side) :
    ∃ v, (resSem a.tmps rv).run P w = .ok v w ∧ IR σ (resI T st.S.get (lget st.M) rv).r v := by
  cases rv with
  | tmp t => exact ⟨_, rfl, evS_ok hat.slots (.tmp t) (isLit_iff hs)⟩
  | cell b t =>
    obtain ⟨h1, h2⟩ := hs
    have hv := evS_ok hat.slots (.tmp b) (isLit_iff h1)
    obtain ⟨u, hu, hr⟩ := load_ok hT hat.sim hv h2
    refine ⟨u, ?_, hr⟩
    have hv' : a.eval (.tmp b) = a.tmps.getD b undef := rfl
    rw [hv'] at hu
    simp only [resSem]
    simp only [Instr.loadAt, Sem.run_bind] at hu ⊢
    cases he : a.tmps.getD b undef with
    | pointer x =>
      cases x with
      | some x => rw [he] at hu; simpa [Instr.sureAddr, asAddr] using hu
      | none => rw [he] at hu; simp [Instr.sureAddr, stuck] at hu
    | _ => rw [he] at hu; simp [Instr.sureAddr, stuck] at hu

theorem run_mapM {α : Type} (f : α → Sem Value) (w : World) : ∀ (l : List α) (vs : List Value), All2 (fun x v => (f x).run P w = .ok v w) l vs → (l.mapM f).run P w = .ok vs w
  | [], [], _ => rfl
  | x :: r, v :: vs, h => by
    rw [List.mapM_cons]
    simp [h.1, run_mapM f w r vs h.2]
  | [], _ :: _, h => h.elim
  | _ :: _, [], h => h.elim

theorem results_ok (hT : TabOk P T) (hat : At X σ st a w) {fn : Func} (hs : (resultI T fn.results.toList st.S.get (lget st.M)).1) :
    ∃ v, (results fn a.tmps).run P w = .ok v w ∧ IR σ (resultI T fn.results.toList st.S.get (lget st.M)).2 v := by
  have all : ∀ l : List ResultVar, (∀ x ∈ l, (resI T st.S.get (lget st.M) x).side) → ∃ vs : List Value, (l.mapM (resSem a.tmps)).run P w = .ok vs w ∧ All2 (IR σ) (l.map fun x => (resI T st.S.get (lget st.M) x).r) vs := by
    intro l
    induction l with
    | nil => intro _; exact ⟨[], rfl, trivial⟩
    | cons x r ih =>
      intro h
      obtain ⟨v, hv, hr⟩ := resI_ok hT hat (h x (by simp))
      obtain ⟨vs, hvs, hrs⟩ := ih fun y hy => h y (by simp [hy])
      refine ⟨v :: vs, ?_, hr, hrs⟩
      rw [List.mapM_cons]
      simp [hv, hvs]
  have hmap : ∀ vs : List Value, (fn.results.toList.mapM (resSem a.tmps)).run P w = .ok vs w → (results fn a.tmps).run P w = .ok (if h : vs.toArray.size = 1 then vs.toArray[0] else .tuple vs.toArray) w := by
    intro vs hvs
    rw [results_eq, Array.mapM_eq_mapM_toList]
    simp only [Sem.run_bind, Sem.run_map, hvs, Result.andThen_ok, Sem.run_pure]
  unfold resultI at hs ⊢
  split at hs
  · rename_i o ho
    obtain ⟨x, hx⟩ : ∃ x, fn.results.toList = [x] := by
      cases h : fn.results.toList with
      | nil => rw [h] at ho; cases ho
      | cons x r => cases r with
        | nil => exact ⟨x, rfl⟩
        | cons _ _ => rw [h] at ho; cases ho
    rw [hx] at ho
    simp only [List.map_cons, List.map_nil, List.cons.injEq, and_true] at ho
    subst ho
    obtain ⟨vs, hvs, hrs⟩ := all [x] (fun y hy => by simp at hy; subst hy; exact hs)
    match vs, hrs with
    | [v], hrs =>
      refine ⟨v, ?_, ?_⟩
      · rw [hmap [v] (by rw [hx]; exact hvs)]; simp
      · exact hrs.1
  · rename_i hne
    have hsides : ∀ l : List ResultVar, sidesP (l.map (resI T st.S.get (lget st.M))) → ∀ x ∈ l, (resI T st.S.get (lget st.M) x).side ∧ (resI T st.S.get (lget st.M) x).r.plain := by
      intro l
      induction l with
      | nil => intro _ x hx; cases hx
      | cons y r ih =>
        intro h x hx
        rcases List.mem_cons.1 hx with e | hx
        · subst e; exact ⟨h.1, h.2.1⟩
        · exact ih h.2.2 x hx
    have hs' := hsides _ hs
    obtain ⟨vs, hvs, hrs⟩ := all fn.results.toList fun x hx => (hs' x hx).1
    refine ⟨.tuple vs.toArray, ?_, ?_⟩
    · rw [hmap vs hvs]
      have hl : vs.length ≠ 1 := by
        have := hrs.length
        intro h1
        rw [h1] at this
        simp only [List.length_map] at this
        match hrl : fn.results.toList, this with
        | [x], _ => exact hne (resI T st.S.get (lget st.M) x) (by rw [hrl]; rfl)
      simp [hl]
    · refine ⟨vs, rfl, ?_⟩
      rw [List.map_map]
      have conv : ∀ (l : List ResultVar) (vs : List Value), (∀ x ∈ l, (resI T st.S.get (lget st.M) x).r.plain) → All2 (IR σ) (l.map fun x => (resI T st.S.get (lget st.M) x).r) vs → All2 (TR σ) (l.map ((fun o => tvOf o.r) ∘ resI T st.S.get (lget st.M))) vs := by
        intro l
        induction l with
        | nil => intro vs _ h; cases vs with
          | nil => trivial
          | cons _ _ => exact h.elim
        | cons y r ih => intro vs hp h; cases vs with
          | nil => exact h.elim
          | cons v vs =>
            refine ⟨?_, ih vs (fun x hx => hp x (by simp [hx])) h.2⟩
            have h1 : IR σ (resI T st.S.get (lget st.M) y).r v := h.1
            have h2 := hp y (by simp)
            simp only [Function.comp]
            revert h1 h2
            generalize (resI T st.S.get (lget st.M) y).r = iv
            intro h1 h2
            cases iv with
            | one x => exact h1
            | agg l => exact h1
            | tup l => exact h2.elim
      exact conv _ _ (fun x hx => (hs' x hx).2) hrs
end

def isRet : Exit → Prop
  | .ret => True
  | .normal => True
  | _ => False

theorem calls_of_vc {e : En} (he : e.Ok) (hro : (e.F ()).round = none) {f : FuncId} {fn : Func} {c : Code} (hf : (e.P ()).funcs[f]? = some fn) (hb : fn.body = some c) {X : Cx} (hck : codeOk X.nt c = true) (hmk : X.df = none) {n : Nat} {st0 : St} {σ0 : Ren} {args : Array Value} {w : World}
    (hat : At X σ0 st0 { tmps := args ++ Array.replicate (fn.ntmps - args.size) undef, defers := [] } w) {Z : St → Prop}
    (h : vc e X c st0 fun x st => isRet x ∧ (resultI e.T fn.results.toList st.S.get (lget st.M)).1 ∧ Z st) :
    CallsIn (e.F ()) n (e.P ()) f args w fun
      | .returned v, w' => ∃ σ' a' st', Z st' ∧ At X σ' st' a' w' ∧ IR σ' (resultI e.T fn.results.toList st'.S.get (lget st'.M)).2 v ∧ Keep X.B X.O w w'
      | _, _ => False := by
  refine callsIn_of_wp hf hb (he.fn f) (wpIn_mono (vc_tri he c hck h n σ0 _ w hat) fun x a' w' hq => ?_) hro
  obtain ⟨σ', st', ⟨hr, hs, hZ⟩, hat', hk⟩ := hq
  obtain ⟨v, hv, hir⟩ := results_ok he.tab hat' hs
  cases x with
  | ret => exact ⟨(show DefOk none σ' a'.defers from hmk ▸ hat'.defers).none, v, hv, σ', a', st', hZ, hat', hir, hk⟩
  | normal => exact ⟨(show DefOk none σ' a'.defers from hmk ▸ hat'.defers).none, v, hv, σ', a', st', hZ, hat', hir, hk⟩
  | _ => exact hr.elim
end Go.Proofs.YthgllnnlngihoaaGreat.Sx
end
section
set_option linter.unusedVariables false
set_option linter.unusedSimpArgs false
namespace Go.Proofs.YthgllnnlngihoaaGreat.Sx
open Go.RowKit

def numL : Nat → List Ob → List (Nat × Ob)
  | _, [] => []
  | i, ob :: r => (i, ob) :: numL (i + 1) r
def numS : Nat → List IV → SL
  | _, [] => []
  | i, iv :: r => (i, .lit true, iv) :: numS (i + 1) r
theorem numL_get : ∀ (l : List Ob) (i j : Nat), lget (numL i l) j = if i ≤ j then l[j - i]? else none
  | [], i, j => by simp [numL, lget]
  | ob :: r, i, j => by
    simp only [numL, lget]
    by_cases h : i = j
    · subst h; simp
    · simp only [h, if_false]
      rw [numL_get r]
      by_cases h2 : i + 1 ≤ j
      · rw [if_pos h2, if_pos (by omega), show j - i = (j - (i + 1)) + 1 by omega]; simp
      · rw [if_neg h2, if_neg (by omega)]
theorem numS_get : ∀ (l : List IV) (i j : Nat), (numS i l).get j = if i ≤ j then (l[j - i]?).map fun x => (BX.lit true, x) else none
  | [], i, j => by simp [numS, SL.get]
  | ob :: r, i, j => by
    simp only [numS, SL.get]
    by_cases h : i = j
    · subst h; simp
    · simp only [h, if_false]
      rw [numS_get r]
      by_cases h2 : i + 1 ≤ j
      · rw [if_pos h2, if_pos (by omega), show j - i = (j - (i + 1)) + 1 by omega]; simp
      · rw [if_neg h2, if_neg (by omega)]

def nameOf (vs : List Value) : Ren := fun t => vs[t]?

/-- Nothing of it is one's own. -/
def Lent (obs : List Ob) : Prop := ∀ ob ∈ obs, ob.own = false

theorem lent_sim {obs : List Ob} {vs : List Value} {w : World} (hl : Lent obs) (h : All2 (fun ob v => ObRel (nameOf vs) w ob v) obs vs) : Sim w.heap.size (fun _ => False) (nameOf vs) (lget (numL 0 obs)) w := by
  have get : ∀ i ob, lget (numL 0 obs) i = some ob → obs[i]? = some ob := fun i ob hg => by rw [numL_get] at hg; simpa using hg
  refine ⟨fun i hv hi => ?_, fun i j hi hj oi oj b hne si sj mi mj ho => ?_, fun i hi oi b si mi ho => ?_, Nat.le_refl _⟩
  · have hlt : i < vs.length := (List.getElem?_eq_some_iff.1 hi).1
    have hlo : i < obs.length := by rw [h.length]; exact hlt
    obtain ⟨v, hv', hr⟩ := h.get i obs[i] (by simp [hlo])
    have : vs[i]? = some hv := hi
    rw [this] at hv'
    cases hv'
    exact ⟨obs[i], by rw [numL_get]; simp [hlo], hr⟩
  · have := hl oi (List.mem_of_getElem? (get i oi mi))
    rw [this] at ho
    cases ho
  · have := hl oi (List.mem_of_getElem? (get i oi mi))
    rw [this] at ho
    cases ho

/-- The state in which a function begins. -/
def start (cargs : List IV) (obs : List Ob) : St := ⟨numS 0 cargs, numL 0 obs, obs.length⟩

theorem start_at {obs : List Ob} {vs : List Value} {w : World} {cargs : List IV} {vals : List Value} {nt : Nat} (hl : Lent obs) (h : All2 (fun ob v => ObRel (nameOf vs) w ob v) obs vs) (ha : All2 (IR (nameOf vs)) cargs vals) (hn : cargs.length ≤ nt) :
    At ⟨fun _ => none, w.heap.size, fun _ => False, nt, none⟩ (nameOf vs) (start cargs obs) { tmps := vals.toArray ++ Array.replicate (nt - vals.toArray.size) undef, defers := [] } w := by
  have hlen := ha.length
  refine { slots := fun t => ?_, sim := lent_sim hl h, dom := fun i u hu => ?_, pin := fun i u hu => (by cases hu), size := ?_, defers := .inl rfl }
  · show SlotRel _ ((numS 0 cargs).get t) _
    rw [numS_get]
    simp only [Nat.zero_le, if_true, Nat.sub_zero]
    cases hc : cargs[t]? with
    | none => trivial
    | some iv =>
      obtain ⟨v, hv, hr⟩ := ha.get t iv hc
      have hlt : t < vals.length := (List.getElem?_eq_some_iff.1 hv).1
      simp only [Option.map_some]
      have : (vals.toArray ++ Array.replicate (nt - vals.toArray.size) undef).getD t undef = v := by
        rw [Array.getD_eq_getD_getElem?, Array.getElem?_append_left (by simpa using hlt)]
        simp [hv]
      rw [this]
      exact ⟨fun _ => hr, fun h => by cases h⟩
  · have hlt : i < vs.length := (List.getElem?_eq_some_iff.1 hu).1
    show i < obs.length
    rw [h.length]
    exact hlt
  · simp
    omega

/-! ### What comes back -/
def newTau (base : Nat) : List Src → Tau
  | [] => []
  | j :: r => (base, j) :: newTau (base + 1) r

/-- What a function gives, as its text leaves it. -/
def FinBy (T : Tab) (rs : List ResultVar) (js : List Src) (st : St) (r : IV) (news : List Ob) : Prop :=
  isT (Nat.beq js.length news.length) ∧ isT (distinct (olds (newTau 0 js))) ∧ memLeL (tget (newTau 0 js)) (lget st.M) (lget (numL 0 news)) (newTau 0 js) ∧ IvLe (tget (newTau 0 js)) (resultI T rs st.S.get (lget st.M)).2 r

theorem newTau_mem : ∀ {l : List Src} {b i : Nat} {s : Src}, tget (newTau b l) i = some s → b ≤ i ∧ i < b + l.length
  | [], _, _, _, h => by cases h
  | j :: r, b, i, s, h => by
    simp only [newTau, tget] at h
    simp only [List.length_cons]
    split at h
    · omega
    · have := newTau_mem h
      omega

theorem fin_sim {T : Tab} {rs : List ResultVar} {js : List Src} {st : St} {r : IV} {news : List Ob} (h : FinBy T rs js st r news) {B : Nat} {O : Nat → Prop} {σ : Ren} {w : World} (hs : Sim B O σ (lget st.M) w) {v : Value} (hv : IR σ (resultI T rs st.S.get (lget st.M)).2 v) :
    ∃ σ', Sim B O σ' (lget (numL 0 news)) w ∧ IR σ' r v ∧ ∀ i u, σ' i = some u → i < news.length := by
  obtain ⟨hl, hd, hm, hr⟩ := h
  have hl := Nat.eq_of_beq_eq_true (isT_iff.1 hl)
  have hM : MemLe (tget (newTau 0 js)) (lget st.M) (lget (numL 0 news)) := by
    refine ⟨fun i j ht => ?_, fun i ht => ?_, fun i i' j h1 h2 => olds_inj (isT_iff.1 hd) (tget_mem h1) (tget_mem h2)⟩
    · have := memLeL_mem hm i _ (tget_mem ht)
      simp only [srcLe] at this
      split at this
      · rename_i ob ob' e1 e2; exact ⟨ob, ob', e1, e2, this⟩
      · exact this.elim
    · have := memLeL_mem hm i _ (tget_mem ht)
      simp only [srcLe] at this
      split at this
      · rename_i ob' e2; exact ⟨ob', e2, this⟩
      · exact this.elim
  refine ⟨renOf (tget (newTau 0 js)) σ, hM.sim hs, hr.ok hv, fun i u hu => ?_⟩
  cases ht : tget (newTau 0 js) i with
  | none => simp only [renOf, ht] at hu; cases hu
  | some s => have := newTau_mem ht; omega

/-- Names from a base on. -/
def tauN (base k : Nat) : Nat → Option Src := fun i => if base ≤ i ∧ i < base + k then some (.old (i - base)) else none

/-- Two memories in one: what was there; what a call made. -/
theorem join_sim {B : Nat} {O : Nat → Prop} {σ σ2 : Ren} {M : Mem} {w w' : World} (hS : Sim B O σ M w) (hk : Keep w.heap.size (fun _ => False) w w') (hc : Sim w.heap.size (fun _ => False) σ2 M w') (hdis : ∀ i u, σ2 i = some u → σ i = none)
    (hpriv : ∀ i u ob, σ2 i = some u → M i = some ob → ob.own = true ∨ ¬ ob.occ) : Sim B O (fun i => (σ2 i).or (σ i)) M w' := by
  have h1 := hS.below hk.below
  have hle1 : Ren.le σ2 (fun i => (σ2 i).or (σ i)) := fun i u h => by simp [h]
  have hle2 : Ren.le σ (fun i => (σ2 i).or (σ i)) := fun i u h => by
    cases h2 : σ2 i with
    | none => simp only [h2, Option.none_or]; exact h
    | some x => rw [hdis i x h2] at h; cases h
  have cs : ∀ {i hv}, (σ2 i).or (σ i) = some hv → σ2 i = some hv ∨ σ i = some hv := fun {i hv} h => by
    cases h2 : σ2 i with
    | none => rw [h2] at h; exact .inr (by simpa using h)
    | some x => rw [h2] at h; exact .inl (by simpa using h)
  -- what is new lies behind
  have new_ge : ∀ i u ob b, σ2 i = some u → M i = some ob → ob.occ → blkOf u = some b → w.heap.size ≤ b := by
    intro i u ob b s m ho hb
    rcases hpriv i u ob s m with h | h
    · rcases hc.own i u ob b s m h hb with h | h
      · exact h
      · exact h.elim
    · exact (h ho).elim
  have old_lt : ∀ i u ob b, σ i = some u → M i = some ob → ob.occ → blkOf u = some b → b < w.heap.size := by
    intro i u ob b s m ho hb
    obtain ⟨ob2, m2, hr⟩ := hS.ob i u s
    rw [m] at m2
    cases m2
    exact hr.lt ho hb
  refine ⟨fun i hv hi => ?_, fun i j hi hj oi oj b hne si sj mi mj ho hocc bi bj => ?_, fun i hi oi b si mi ho bi => ?_, h1.size⟩
  · rcases cs hi with h | h
    · obtain ⟨ob, m, hr⟩ := hc.ob i hv h; exact ⟨ob, m, hr.le hle1⟩
    · obtain ⟨ob, m, hr⟩ := h1.ob i hv h; exact ⟨ob, m, hr.le hle2⟩
  · rcases cs si with h | h <;> rcases cs sj with h' | h'
    · exact hc.sep i j hi hj oi oj b hne h h' mi mj ho hocc bi bj
    · have := new_ge i hi oi b h mi (Ob.occ_of_own ho) bi
      have := old_lt j hj oj b h' mj hocc bj
      omega
    · have := new_ge j hj oj b h' mj hocc bj
      have := old_lt i hi oi b h mi (Ob.occ_of_own ho) bi
      omega
    · exact hS.sep i j hi hj oi oj b hne h h' mi mj ho hocc bi bj
  · rcases cs si with h | h
    · exact .inl (Nat.le_trans hS.size (new_ge i hi oi b h mi (Ob.occ_of_own ho) bi))
    · exact hS.own i hi oi b h mi ho bi

/-- One call, from the text. -/
theorem calls_at {e : En} (he : e.Ok) (hro : (e.F ()).round = none) {f : FuncId} {fn : Func} {c : Code} (hf : (e.P ()).funcs[f]? = some fn) (hb : fn.body = some c) (hck : codeOk fn.ntmps c = true) {sp : Spec} {args : List IV} {M : Mem} {base : Nat}
    (h : ∃ (r : Nat → IV) (news : Nat → List Ob),
      (∀ B O σ w vals, Sim B O σ M w → All2 (IR σ) args vals → ∃ (cargs : List IV) (obs : List Ob) (vs : List Value), cargs.length ≤ fn.ntmps ∧ Lent obs ∧ All2 (fun ob v => ObRel (nameOf vs) w ob v) obs vs ∧ All2 (IR (nameOf vs)) cargs vals ∧
        ∀ B, vc e ⟨fun _ => none, B, fun _ => False, fn.ntmps, none⟩ c (start cargs obs) fun x st => isRet x ∧ (resultI e.T fn.results.toList st.S.get (lget st.M)).1 ∧ ∃ js, FinBy e.T fn.results.toList js st (r 0) (news 0)) ∧
      (sp args M base).r = r base ∧ (sp args M base).news = news base ∧ (sp args M base).upd = [] ∧
      IvLe (tauN base (news 0).length) (r 0) (r base) ∧ All2 (ObLe (tauN base (news 0).length)) (news 0) (news base) ∧ ∀ ob ∈ news base, ob.own = true ∨ ¬ ob.occ)
    (n B : Nat) (O : Nat → Prop) (σ : Ren) (w : World) (vals : List Value) (hS : Sim B O σ M w) (ha : All2 (IR σ) args vals)
    (hnew : ∀ t ob, (sp args M base).news[t]? = some ob → M (base + t) = some ob) (hfree : ∀ t, t < (sp args M base).news.length → σ (base + t) = none) :
    CallsIn (e.F ()) n (e.P ()) f vals.toArray w fun
      | .returned v, w' => ∃ σ', StepOk B O σ (updL M (sp args M base).upd) (sp args M base) base w v w' σ'
      | _, _ => False := by
  obtain ⟨r, news, hloc, hr, hnw, hup, hnat, hnatM, hpriv⟩ := h
  obtain ⟨cargs, obs, vs, hn, hl, hobs, hcargs, hvc⟩ := hloc B O σ w vals hS ha
  have hat := start_at (nt := fn.ntmps) hl hobs hcargs hn
  refine (calls_of_vc (n := n) he hro hf hb (X := ⟨fun _ => none, w.heap.size, fun _ => False, fn.ntmps, none⟩) hck rfl hat (Z := fun st => ∃ js, FinBy e.T fn.results.toList js st (r 0) (news 0)) (hvc w.heap.size)).mono fun en w' hen => ?_
  cases en with
  | panicked _ => exact hen.elim
  | outgrown => exact hen.elim
  | returned v =>
    obtain ⟨σ1, a1, st1, ⟨js, hfin⟩, hat1, hir, hk⟩ := hen
    obtain ⟨σ2, hS2, hir2, hdom2⟩ := fin_sim hfin hat1.sim hir
    have hlen : (news base).length = (news 0).length := hnatM.length.symm
    have hM : MemLe (tauN base (news 0).length) (lget (numL 0 (news 0))) M := by
      refine ⟨fun i j ht => ?_, fun i ht => ?_, fun i i' j h1 h2 => ?_⟩
      · unfold tauN at ht
        split at ht
        · rename_i hc
          simp only [Option.some.injEq, Src.old.injEq] at ht
          subst ht
          have hlt : i - base < (news 0).length := by omega
          obtain ⟨ob', h1, h2⟩ := hnatM.get (i - base) (news 0)[i - base] (by simp [hlt])
          refine ⟨(news 0)[i - base], ob', by rw [numL_get]; simp [hlt], ?_, h2⟩
          have := hnew (i - base) ob' (by rw [hnw]; exact h1)
          rw [show base + (i - base) = i by omega] at this
          exact this
        · cases ht
      · unfold tauN at ht
        split at ht <;> cases ht
      · unfold tauN at h1 h2
        split at h1 <;> split at h2
        · simp only [Option.some.injEq, Src.old.injEq] at h1 h2
          omega
        all_goals first | (cases h1; done) | (cases h2; done) | (rename_i h3; cases h3; done) | skip
        all_goals first | contradiction | (simp at h1) | (simp at h2)
    have hS3 := hM.sim hS2
    have hin : ∀ i u, renOf (tauN base (news 0).length) σ2 i = some u → base ≤ i ∧ i < base + (news base).length := by
      intro i u hu
      cases ht : tauN base (news 0).length i with
      | none => simp only [renOf, ht] at hu; cases hu
      | some s =>
        unfold tauN at ht
        split at ht
        · omega
        · cases ht
    have hdis : ∀ i u, renOf (tauN base (news 0).length) σ2 i = some u → σ i = none := by
      intro i u hu
      have hh := hin i u hu
      have := hfree (i - base) (by rw [hnw]; omega)
      rw [show base + (i - base) = i by omega] at this
      exact this
    have hprivM : ∀ i u ob, renOf (tauN base (news 0).length) σ2 i = some u → M i = some ob → ob.own = true ∨ ¬ ob.occ := by
      intro i u ob hu hMi
      have hh := hin i u hu
      have hlt : i - base < (news base).length := by omega
      have := hnew (i - base) (news base)[i - base] (by rw [hnw]; simp [hlt])
      rw [show base + (i - base) = i by omega, hMi] at this
      cases this
      exact hpriv _ (List.getElem_mem hlt)
    refine ⟨fun i => (renOf (tauN base (news 0).length) σ2 i).or (σ i), fun i u hu => ?_, fun i u hu => ?_, ?_, ?_, ?_⟩
    · cases h2 : renOf (tauN base (news 0).length) σ2 i with
      | none => simpa using hu
      | some x => rw [hdis i x h2] at hu; cases hu
    · cases h2 : renOf (tauN base (news 0).length) σ2 i with
      | none => rw [h2] at hu; exact .inl (by simpa using hu)
      | some x => have := hin i x h2; exact .inr (by rw [hnw]; exact this)
    · rw [hr]
      exact (hnat.ok hir2).le fun i u hu => by simp [hu]
    · rw [hup]
      exact join_sim hS hk hS3 hdis hprivM
    · exact ⟨hk.os, hk.tape, hk.output, hk.size, fun b hb _ => hk.block b (Nat.lt_of_lt_of_le hb hS.size) id⟩
/-- A FUNCTION'S MEANING, FROM ITS TEXT. -/
theorem spec_ok {e : En} (he : e.Ok) (hro : (e.F ()).round = none) {f : FuncId} {fn : Func} {c : Code} (hf : (e.P ()).funcs[f]? = some fn) (hb : fn.body = some c) (hname : (fn.name == "runtime.NumGoroutine") = false) (hck : codeOk fn.ntmps c = true) {sp : Spec} (hcg : sp.Congr)
    (h : ∀ args M base, (sp args M base).side → ∃ (r : Nat → IV) (news : Nat → List Ob),
      (∀ B O σ w vals, Sim B O σ M w → All2 (IR σ) args vals → ∃ (cargs : List IV) (obs : List Ob) (vs : List Value), cargs.length ≤ fn.ntmps ∧ Lent obs ∧ All2 (fun ob v => ObRel (nameOf vs) w ob v) obs vs ∧ All2 (IR (nameOf vs)) cargs vals ∧
        ∀ B, vc e ⟨fun _ => none, B, fun _ => False, fn.ntmps, none⟩ c (start cargs obs) fun x st => isRet x ∧ (resultI e.T fn.results.toList st.S.get (lget st.M)).1 ∧ ∃ js, FinBy e.T fn.results.toList js st (r 0) (news 0)) ∧
      (sp args M base).r = r base ∧ (sp args M base).news = news base ∧ (sp args M base).upd = [] ∧
      IvLe (tauN base (news 0).length) (r 0) (r base) ∧ All2 (ObLe (tauN base (news 0).length)) (news 0) (news base) ∧ ∀ ob ∈ news base, ob.own = true ∨ ¬ ob.occ) : SpecOk (e.F ()) (e.P ()) f sp :=
  ⟨hcg, ⟨fn, c, hf, hb, hname⟩, fun n B O σ M w args vals base hS ha hs hnew hfree => calls_at he hro hf hb hck (h args M base hs) n B O σ w vals hS ha hnew hfree⟩
end Go.Proofs.YthgllnnlngihoaaGreat.Sx
end
section
set_option linter.unusedVariables false
set_option linter.unusedSimpArgs false
namespace Go.Proofs.YthgllnnlngihoaaGreat.Sx
open Go.RowKit

theorem PtOk.inRound {F : Fence} {P : Program} {f : FuncId} {p : Pt} (l : Nat) (h : PtOk F P (.func f) p) : PtOk (F.inRound l) P (.func f) p := h
theorem SpecOk.inRound {F : Fence} {P : Program} {f : FuncId} {sp : Spec} (l : Nat) (h : SpecOk F P f sp) : SpecOk (F.inRound l) P f sp := ⟨h.congr, h.enters, h.calls⟩

section
variable {e : En} {X : Cx}

/-- The temporaries of a frame that begins. -/
theorem numS_rel {σ : Ren} {args : List IV} {vals : List Value} {nt : Nat} (ha : All2 (IR σ) args vals) : SlotsRel σ (numS 0 args).get (vals.toArray ++ Array.replicate (nt - vals.toArray.size) undef) := by
  intro t
  rw [numS_get]
  simp only [Nat.zero_le, if_true, Nat.sub_zero]
  cases hc : args[t]? with
  | none => trivial
  | some iv =>
    obtain ⟨v, hv, hr⟩ := ha.get t iv hc
    have hlt : t < vals.length := (List.getElem?_eq_some_iff.1 hv).1
    simp only [Option.map_some]
    have : (vals.toArray ++ Array.replicate (nt - vals.toArray.size) undef).getD t undef = v := by
      rw [Array.getD_eq_getD_getElem?, Array.getElem?_append_left (by simpa using hlt)]
      simp [hv]
    rw [this]
    exact ⟨fun _ => hr, fun h => by cases h⟩

/-- A function entered in place. -/
def ptFn (e : En) (fn : Func) (c : Code) : Pt := fun X args m base K => args.length ≤ fn.ntmps ∧ vc e ⟨X.π, X.B, X.O, fn.ntmps, none⟩ c ⟨numS 0 args, m, base⟩ fun x st => isRet x ∧ (resultI e.T fn.results.toList st.S.get (lget st.M)).1 ∧ K (resultI e.T fn.results.toList st.S.get (lget st.M)).2 st.M st.base
theorem ptFn_ok (he : e.Ok) (hro : (e.F ()).round = none) {f : FuncId} {fn : Func} {c : Code} (hf : (e.P ()).funcs[f]? = some fn) (hb : fn.body = some c) (hname : (fn.name == "runtime.NumGoroutine") = false) (hck : codeOk fn.ntmps c = true) : PtOk (e.F ()) (e.P ()) (.func f) (ptFn e fn c) := by
  refine ⟨fun X args m base K K' hk h => ⟨h.1, vc_mono he h.2 fun x st hh => ⟨hh.1, hh.2.1, hk _ _ _ hh.2.2⟩⟩, fun X args m base K h n σ w vals hS hdom hpin ha => ⟨⟨fn, c, hf, hb, hname⟩, ?_⟩⟩
  obtain ⟨hlen, h⟩ := h
  have hat : At ⟨X.π, X.B, X.O, fn.ntmps, none⟩ σ ⟨numS 0 args, m, base⟩ { tmps := vals.toArray ++ Array.replicate (fn.ntmps - vals.toArray.size) undef, defers := [] } w := by
    refine { slots := numS_rel ha, sim := hS, dom := hdom, pin := hpin, size := ?_, defers := .inl rfl }
    have := ha.length
    simp
    omega
  refine (calls_of_vc (n := n) he hro hf hb hck rfl hat (Z := fun st => K (resultI e.T fn.results.toList st.S.get (lget st.M)).2 st.M st.base) h).mono fun en w' hen => ?_
  cases en with
  | panicked _ => exact hen.elim
  | outgrown => exact hen.elim
  | returned v =>
    obtain ⟨σ', a', st', hz, hat', hir, hk⟩ := hen
    exact ⟨σ', st'.M, st'.base, _, hz, hat'.sim, hat'.dom, hat'.pin, hir, hk⟩

/-! ### Rounds -/
def setPs (S : SL) : List Tmp → List IV → SL
  | t :: ts, x :: xs => setPs (S.set t (.lit true, x)) ts xs
  | _, _ => S
theorem setPs_rel {σ : Ren} : ∀ (ps : List Tmp) (args : List IV) (vals : List Value) (S : SL) (tmps : Array Value), SlotsRel σ S.get tmps → All2 (IR σ) args vals → (∀ t ∈ ps, t < tmps.size) → SlotsRel σ (setPs S ps args).get ((ps.zip vals).foldl (fun tmps p => tmps.setIfInBounds p.1 p.2) tmps)
  | [], args, vals, S, tmps, h, _, _ => by
    cases args <;> exact h
  | t :: ts, [], vals, S, tmps, h, ha, _ => by
    cases vals with
    | nil => exact h
    | cons _ _ => exact ha.elim
  | t :: ts, x :: xs, [], S, tmps, h, ha, _ => ha.elim
  | t :: ts, x :: xs, v :: vs, S, tmps, h, ha, hb => by
    simp only [setPs, List.zip_cons_cons, List.foldl_cons]
    refine setPs_rel ts xs vs _ _ ?_ ha.2 fun t' ht' => by rw [Array.size_setIfInBounds]; exact hb t' (by simp [ht'])
    have := setR_rel (a := { tmps := tmps, defers := [] }) h (dst := some t) (fun d hd => by cases hd; exact hb t (by simp)) (x := (.lit true, x)) (v := v) ⟨fun _ => ha.1, fun h => by cases h⟩
    exact this
theorem foldl_size : ∀ (l : List (Tmp × Value)) (tmps : Array Value), (l.foldl (fun tmps p => tmps.setIfInBounds p.1 p.2) tmps).size = tmps.size
  | [], _ => rfl
  | _ :: r, tmps => by rw [List.foldl_cons, foldl_size r, Array.size_setIfInBounds]

/-- A round of a loop. rid: the record's name; S0: what is known of the temporaries as they were when the loop began, by names that π0 pins. -/
def ptYield (e : En) (l rid : Nat) (r : Loop) (π0 : Ren) (S0 : SL) (nt : Nat) (ps : List Tmp) (assign body : Code) : Pt := fun X args m base K =>
  (∀ i u, π0 i = some u → X.π i = some u) ∧ lget m rid = some (.obj (.loop r)) ∧ args.length = ps.length ∧
  vc e ⟨X.π, X.B, X.O, nt, none⟩ assign ⟨setPs S0 ps args, m, base⟩ fun x st => x = .normal ∧ lget st.M rid = some (.obj (.loop r)) ∧
  vc e ⟨X.π, X.B, X.O, nt, none⟩ body ⟨st.S, lset st.M rid (.obj (.loop { r with state := .busy })), st.base⟩ fun x st => x = .normal ∧ lget st.M rid = some (.obj (.loop { r with state := .busy })) ∧ K (.one (.b (.lit true))) (lset st.M rid (.obj (.loop r))) st.base

/-- A block that is an object is turned. -/
theorem obj_put {B : Nat} {O : Nat → Prop} {σ : Ren} {m : ML} {w : World} (hS : Sim B O σ (lget m) w) {i b : Nat} {o : Obj} (hi : σ i = some (.pointer (some ⟨b, 0, none⟩))) (hm : lget m i = some (.obj o)) (o' : Obj) :
    w.heap[b]? = some o ∧ Sim B O σ (lget (lset m i (.obj o'))) (w.putObj b o') ∧ Keep B O w (w.putObj b o') := by
  obtain ⟨ob, h1, h2⟩ := hS.ob i _ hi
  rw [hm] at h1
  cases h1
  obtain ⟨g, hg, ho⟩ := h2
  cases hg
  have hb := hS.own i _ _ b hi hm rfl rfl
  have hlt : b < w.heap.size := (Array.getElem?_eq_some_iff.1 ho).1
  refine ⟨ho, ?_, Keep.of_write hb (fun k hk => World.putObj_heap_other hk) rfl rfl rfl (by simp)⟩
  rw [lset_ok]
  exact hS.write hi hm rfl rfl (fun k hk => World.putObj_heap_other hk) (by simp) ⟨b, rfl, World.putObj_heap_same hlt⟩

theorem ptYield_ok {F : Fence} {l rid : Nat} (he : e.Ok) (heF : (e.F ()) = F.inRound l) {r : Loop} {π0 : Ren} {S0 : SL} {nt : Nat} {ps : List Tmp} {assign body : Code}
    (hr : r.state = .ready) (hrp : r.pending = none) (hps : r.params.toList = ps) (ha : r.assign = assign) (hb : r.body = body) (hnt : r.tmps.size = nt) (hid : π0 rid = some (.pointer (some ⟨l, 0, none⟩)))
    (hS0 : ∀ σ : Ren, (∀ i u, π0 i = some u → σ i = some u) → SlotsRel σ S0.get r.tmps) (hpb : ∀ t ∈ ps, t < nt) (hca : codeOk nt assign = true) (hcb : codeOk nt body = true) (hF : ∀ f, F.fn f) :
    PtOk F (e.P ()) (.yield l) (ptYield e l rid r π0 S0 nt ps assign body) := by
  refine ⟨fun X args m base K K' hk h => ⟨h.1, h.2.1, h.2.2.1, vc_mono he h.2.2.2 fun x st hh => ⟨hh.1, hh.2.1, vc_mono he hh.2.2 fun x st h2 => ⟨h2.1, h2.2.1, hk _ _ _ h2.2.2⟩⟩⟩, ?_⟩
  intro X args m base K h n σ w vals hS hdom hpin hargs
  obtain ⟨hπ, hm, hlen, hv⟩ := h
  have hidσ := hpin _ _ (hπ _ _ hid)
  obtain ⟨hw, _, _⟩ := obj_put hS hidσ hm (.loop r)
  refine ⟨r, hw, by rw [← hargs.length, hlen, ← hps]; simp, ?_⟩
  have hzip : (r.params.zip vals.toArray).foldl (fun tmps (t, a) => tmps.setIfInBounds t a) r.tmps = (ps.zip vals).foldl (fun tmps p => tmps.setIfInBounds p.1 p.2) r.tmps := by
    rw [← Array.foldl_toList, Array.toList_zip, hps]
  rw [hzip]
  have hsz : ((ps.zip vals).foldl (fun tmps p => tmps.setIfInBounds p.1 p.2) r.tmps).size = nt := by rw [foldl_size, hnt]
  have hat : At ⟨X.π, X.B, X.O, nt, none⟩ σ ⟨setPs S0 ps args, m, base⟩ { tmps := (ps.zip vals).foldl (fun tmps p => tmps.setIfInBounds p.1 p.2) r.tmps, defers := [] } w :=
    { slots := setPs_rel ps args vals S0 r.tmps (hS0 σ fun i u hu => hpin _ _ (hπ _ _ hu)) hargs (by rw [hnt]; exact hpb), sim := hS, dom := hdom, pin := hpin, size := hsz, defers := .inl rfl }
  rw [ha, hb]
  refine roundIn_of_wpIn (hF _) ?_
  rw [← heF]
  refine wpIn_mono (vc_tri he assign hca hv n σ _ w hat) fun x a1 w1 hq => ?_
  obtain ⟨σ1, st1, ⟨rfl, hm1, hv1⟩, hat1, hk1⟩ := hq
  have hid1 := hat1.pin _ _ (hπ _ _ hid)
  obtain ⟨hw1, hS1, hkb⟩ := obj_put hat1.sim hid1 hm1 (.loop { r with state := .busy })
  refine ⟨_, run_beginRound hw1 hr, ?_⟩
  have hat1' : At ⟨X.π, X.B, X.O, nt, none⟩ σ1 ⟨st1.S, lset st1.M rid (.obj (.loop { r with state := .busy })), st1.base⟩ a1 (w1.putObj l (.loop { r with state := .busy })) :=
    ⟨hat1.slots, hS1, hat1.dom, hat1.pin, hat1.size, hat1.defers⟩
  refine wpIn_mono (vc_tri he body hcb hv1 n σ1 a1 _ hat1') fun x a2 w2 hq => ?_
  obtain ⟨σ2, st2, ⟨rfl, hm2, hK⟩, hat2, hk2⟩ := hq
  have hid2 := hat2.pin _ _ (hπ _ _ hid)
  obtain ⟨hw2, hS2, hke⟩ := obj_put hat2.sim hid2 hm2 (.loop r)
  have hrr : ({ ({ r with state := .busy } : Loop) with state := if (none : Option Code).isNone then .ready else .done, pending := none } : Loop) = r := by
    cases r
    simp_all
  refine ⟨_, _, run_endRound none hw2, σ2, _, st2.base, _, hK, ?_, hat2.dom, hat2.pin, ⟨rfl, rfl⟩, ?_⟩
  · rw [hrr]; exact hS2
  · rw [hrr]; exact ((hk1.trans hkb).trans hk2).trans hke

/-! ### The statement -/
theorem rangeFunc_tri (he : e.Ok) (hro : (e.F ()).round = none) {g : Operand} {ps : Array Tmp} {assign body : Code} {st : St} {K : Exit → St → Prop} (pins : List Nat) (hmk : X.df = some st.base) (hg : isLit (evS st.S.get g).1)
    (h : ∀ (l : Nat) (r : Loop) (π : Ren), r.state = .ready → r.pending = none → r.params = ps → r.assign = assign → r.body = body → r.tmps.size = X.nt →
      (∀ i u, π i = some u → inL ((st.base + 1) :: st.base :: pins) i = true ∨ ∃ v, X.π i = some v) → (∀ i u, X.π i = some u → π i = some u) → π (st.base + 1) = some (.pointer (some ⟨l, 0, none⟩)) →
      (∀ σ : Ren, (∀ i u, π i = some u → σ i = some u) → SlotsRel σ (keepS pins [] st.S).get r.tmps) →
      ∃ (f : FuncId) (avs : List IV) (p : Pt), calleeP (lget st.M) (evS st.S.get g).2 [.one (.c (.func (.yield l) #[] #[]))] = some (.func f, avs) ∧ PtOk (e.F ()) (e.P ()) (.func f) p ∧
        p ⟨π, X.B, X.O, 0, none⟩ avs (addR st.M st.base [.obj (.deferred (some [])), .obj (.loop r)]) (st.base + 2) fun v m b =>
          lget m (st.base + 1) = some (.obj (.loop r)) ∧ K .normal ⟨keepS pins [] st.S, lset m (st.base + 1) (.obj (.loop { r with state := .exhausted })), b⟩) :
    Tri e X (.rangeFunc g ps assign body) st K := by
  intro n σ a w hat
  refine wpIn_rangeFunc fun fn hfn => ?_
  let r : Loop := { state := .ready, pending := none, fn, tmps := a.tmps, params := ps, assign, body, defers := w.heap.size }
  let l := w.heap.size + 1
  have hgv := evS_ok hat.slots g (isLit_iff hg)
  -- the two blocks, as objects
  let w1 := (w.alloc (.deferred (some []))).alloc (.loop r)
  have hMr : ∀ i, i < st.base → lget (addR st.M st.base [.obj (.deferred (some [])), .obj (.loop r)]) i = lget st.M i := by
    intro i hi
    rw [addR_get]
    unfold addL
    rw [if_neg (by omega)]
  have hM0 : lget (addR st.M st.base [.obj (.deferred (some [])), .obj (.loop r)]) st.base = some (.obj (.deferred (some []))) := by
    rw [addR_get]
    unfold addL
    rw [if_pos (by simp)]
    simp
  have hM1 : lget (addR st.M st.base [.obj (.deferred (some [])), .obj (.loop r)]) (st.base + 1) = some (.obj (.loop r)) := by
    rw [addR_get]
    unfold addL
    rw [if_pos (by simp)]
    simp
  have hσ0 : σ st.base = none := by
    cases hh : σ st.base with
    | none => rfl
    | some u => have := hat.dom _ u hh; omega
  have hσ1 : σ (st.base + 1) = none := by
    cases hh : σ (st.base + 1) with
    | none => rfl
    | some u => have := hat.dom _ u hh; omega
  have hSm : Sim X.B X.O σ (lget (addR st.M st.base [.obj (.deferred (some [])), .obj (.loop r)])) w :=
    hat.sim.mem fun i hv hi => hMr i (hat.dom i hv hi)
  have hb0 : Below w.heap.size w (w.alloc (.deferred (some []))) := (Below.refl _ w).alloc (Nat.le_refl _) _
  have hb1 : Below (w.alloc (.deferred (some []))).heap.size (w.alloc (.deferred (some []))) w1 := (Below.refl _ _).alloc (Nat.le_refl _) _
  have hS0 := hSm.add hb0 (i := st.base) (hv := .pointer (some ⟨w.heap.size, 0, none⟩)) hM0 hσ0 ⟨w.heap.size, rfl, World.alloc_heap_new w _⟩ (fun _ b hb => by simp [blkOf, addrOf] at hb; omega) (fun _ => trivial)
  have hS1 := hS0.add hb1 (i := st.base + 1) (hv := .pointer (some ⟨l, 0, none⟩)) hM1 (by rw [Ren.set_other _ _ (by omega)]; exact hσ1) ⟨l, rfl, by
    have := World.alloc_heap_new (w.alloc (.deferred (some []))) (.loop r)
    rw [World.size_alloc] at this
    exact this⟩ (fun _ b hb => by simp [blkOf, addrOf] at hb; simp [l, World.size_alloc] at hb ⊢; omega) (fun _ => trivial)
  generalize hσ2 : (σ.set st.base (.pointer (some ⟨w.heap.size, 0, none⟩))).set (st.base + 1) (.pointer (some ⟨l, 0, none⟩)) = σ2 at hS1
  have hle : Ren.le σ σ2 := by
    rw [← hσ2]
    exact (Ren.le_set _ hσ0).trans (Ren.le_set _ (by rw [Ren.set_other _ _ (by omega)]; exact hσ1))
  have hd2 : ∀ i u, σ2 i = some u → i < st.base + 2 := by
    intro i u hu
    rw [← hσ2] at hu
    by_cases e1 : i = st.base + 1
    · omega
    · rw [Ren.set_other _ _ e1] at hu
      by_cases e2 : i = st.base
      · omega
      · rw [Ren.set_other _ _ e2] at hu
        have := hat.dom i u hu
        omega
  have hs0 : σ2 st.base = some (.pointer (some ⟨w.heap.size, 0, none⟩)) := by rw [← hσ2, Ren.set_other _ _ (by omega), Ren.set_same]
  have hs1 : σ2 (st.base + 1) = some (.pointer (some ⟨l, 0, none⟩)) := by rw [← hσ2, Ren.set_same]
  let π : Ren := fun i => if inL ((st.base + 1) :: st.base :: pins) i = true then σ2 i else X.π i
  have hπσ : ∀ i u, π i = some u → σ2 i = some u := by
    intro i u hu
    simp only [π] at hu
    split at hu
    · exact hu
    · exact hle _ _ (hat.pin i u hu)
  have hXπ : ∀ i u, X.π i = some u → π i = some u := by
    intro i u hu
    simp only [π]
    split
    · exact hle _ _ (hat.pin i u hu)
    · exact hu
  have hπ1 : π (st.base + 1) = some (.pointer (some ⟨l, 0, none⟩)) := by
    simp only [π, inL, Nat.beq_refl, Bool.true_or, if_true]
    exact hs1
  have hπp : ∀ i, inL pins i = true → π i = σ2 i := by
    intro i hi
    simp only [π, inL, hi, Bool.or_true, if_true]
  have hkS : ∀ σ' : Ren, (∀ i u, π i = some u → σ' i = some u) → SlotsRel σ' (keepS pins [] st.S).get a.tmps := by
    intro σ' hσ'
    refine keepS_rel hat.slots fun i hi u hu => hσ' i u ?_
    rw [hπp i hi]
    exact hle _ _ hu
  obtain ⟨f, avs, p, hcal, hp, hpp⟩ := h l r π rfl rfl rfl rfl rfl hat.size (fun i u hu => by
    simp only [π] at hu
    split at hu
    · rename_i hh; exact .inl hh
    · exact .inr ⟨u, hu⟩) hXπ hπ1 hkS
  have hgv2 : IR σ2 (evS st.S.get g).2 (a.eval g) := hgv.le hle
  have hcal' : calleeP (lget (addR st.M st.base [.obj (.deferred (some [])), .obj (.loop r)])) (evS st.S.get g).2 [.one (.c (.func (.yield l) #[] #[]))] = some (.func f, avs) := by
    rw [← hcal]
    unfold calleeP
    split
    · rfl
    · rename_i _ _ i hgi
      rw [hgi] at hgv
      rw [hMr i (hat.dom i _ hgv.2)]
    · rfl
  obtain ⟨us, first, cap, hus, hfv, huse, _⟩ := callee_run hS1 hgv2 (args := [.one (.c (.func (.yield l) #[] #[]))]) (vals := [.func (.yield l) #[] #[]]) ⟨⟨rfl, rfl⟩, trivial⟩ hcal'
  obtain ⟨⟨gf, gc, hf1, hf2, hf3⟩, hci⟩ := hp.2 _ _ _ _ _ hpp (n - 1) σ2 w1 us hS1 hd2 hπσ hus
  have hf4 : ¬ gf.name = "runtime.NumGoroutine" := by simpa using hf3
  refine ⟨l, [{ target := .collected w.heap.size, args := #[] }], w1, { target := .fn (.func f) cap.toArray, args := first.toArray ++ #[.func (.yield l) #[] #[]] }, w1, f, us.toArray, w1, ?_, ?_, fun f' _ => he.fn f', ?_, fun hd => by simp [he.depth] at hd, hci.mono fun en w' hen => ?_⟩
  · rw [hro]; exact run_enterLoop_outer fn a.tmps ps assign body
  · have hffv : a.eval g = .func (.func f) first.toArray cap.toArray := hfv
    have hcv : a.eval (.const (.func (.yield l) #[] #[])) = .func (.yield l) #[] #[] := rfl
    simp [resolve, rangeCall, hffv, hcv, Deferred.ofValue]
  · simp [invoke, callFunc, hf1, hf2, hf4, huse]
  · cases en with
    | panicked c => exact hen.elim
    | outgrown => exact hen.elim
    | returned v =>
      obtain ⟨σ', m', base', rv, ⟨hml, hK⟩, hS', hdom', hpin', _, hk'⟩ := hen
      have hid := hpin' _ _ hπ1
      obtain ⟨hw', hS2, hke⟩ := obj_put hS' hid hml (.loop { r with state := .exhausted })
      refine ⟨none, _, run_endLoop hw' (by simp [r]), σ', _, hK, ⟨hkS σ' hpin', hS2, hdom', fun i u hu => hpin' _ _ (hXπ i u hu), hat.size, ?_⟩, ?_⟩
      · have hnil : a.defers = [] := by
          rcases hat.defers with h1 | ⟨i, rr, h1, h2, h3⟩
          · exact h1
          · rw [hmk] at h1
            cases h1
            rw [hσ0] at h2
            cases h2
        refine .inr ⟨st.base, w.heap.size, hmk, hpin' _ _ ?_, by simp [hnil]⟩
        simp only [π, inL, Nat.beq_refl, Bool.true_or, Bool.or_true, if_true]
        exact hs0
      · have hka : Keep X.B X.O w w1 := (Keep.of_below hb0 hat.sim.size).trans (Keep.of_below hb1 hS0.size)
        exact (hka.trans hk').trans hke
end
end Go.Proofs.YthgllnnlngihoaaGreat.Sx
end
section
set_option linter.unusedVariables false
set_option linter.unusedSimpArgs false
namespace Go.Proofs.YthgllnnlngihoaaGreat.Sx
open Go.RowKit

/-- What must be shown where such a function ends: id: the name of the block of what its rounds defer. -/
def markP (T : Tab) (rs : List ResultVar) (id : Nat) (Z : St → Prop) (st : St) : Prop := match lget st.M id with
  | none => (resultI T rs st.S.get (lget st.M)).1 ∧ Z st
  | some (.obj (.deferred (some []))) => ((resultI T rs st.S.get (lget st.M)).1 ∧ Z st) ∧ (resultI T rs st.S.get (lget (lset st.M id (.obj (.deferred none))))).1 ∧ Z ⟨st.S, lset st.M id (.obj (.deferred none)), st.base⟩
  | _ => False

theorem calls_of_vc_marks {e : En} (he : e.Ok) (hro : (e.F ()).round = none) {f : FuncId} {fn : Func} {c : Code} (hf : (e.P ()).funcs[f]? = some fn) (hb : fn.body = some c) {X : Cx} (hck : codeOk X.nt c = true) {id : Nat} (hmk : X.df = some id) {n : Nat} {st0 : St} {σ0 : Ren} {args : Array Value} {w : World}
    (hat : At X σ0 st0 { tmps := args ++ Array.replicate (fn.ntmps - args.size) undef, defers := [] } w) {Z : St → Prop}
    (h : vc e X c st0 fun x st => isRet x ∧ markP e.T fn.results.toList id Z st) :
    CallsIn (e.F ()) n (e.P ()) f args w fun
      | .returned v, w' => ∃ σ' a' st', Z st' ∧ At X σ' st' a' w' ∧ IR σ' (resultI e.T fn.results.toList st'.S.get (lget st'.M)).2 v ∧ Keep X.B X.O w w'
      | _, _ => False := by
  refine callsIn_of_wp_marks hf hb (he.fn f) (wpIn_mono (vc_tri he c hck h n σ0 _ w hat) fun x a' w' hq => ?_) hro
  obtain ⟨σ', st', ⟨hr, hm⟩, hat', hk⟩ := hq
  have go : LeavesInM (e.F ()) n (e.P ()) fn a'.tmps (fun
      | .returned v, w' => ∃ σ' a' st', Z st' ∧ At X σ' st' a' w' ∧ IR σ' (resultI e.T fn.results.toList st'.S.get (lget st'.M)).2 v ∧ Keep X.B X.O w w'
      | _, _ => False) a'.defers .returning w' := by
    rcases hat'.defers with hd | ⟨i, r, h1, h2, h3⟩
    · rw [hd]
      have : (resultI e.T fn.results.toList st'.S.get (lget st'.M)).1 ∧ Z st' := by
        unfold markP at hm
        split at hm
        · exact hm
        · exact hm.1
        · exact hm.elim
      obtain ⟨v, hv, hir⟩ := results_ok he.tab hat' this.1
      exact ⟨v, hv, σ', a', st', this.2, hat', hir, hk⟩
    · rw [hmk] at h1
      cases h1
      obtain ⟨ob, hob, hrel⟩ := hat'.sim.ob id _ h2
      unfold markP at hm
      rw [hob] at hm
      match ob, hm, hob with
      | .obj (.deferred (some [])), hm, hob =>
        obtain ⟨hw, hS, hke⟩ := obj_put hat'.sim h2 hob (.deferred none)
        have hat2 : At X σ' ⟨st'.S, lset st'.M id (.obj (.deferred none)), st'.base⟩ a' (w'.putObj r (.deferred none)) := ⟨hat'.slots, hS, hat'.dom, hat'.pin, hat'.size, hat'.defers⟩
        obtain ⟨v, hv, hir⟩ := results_ok he.tab hat2 hm.2.1
        rw [h3]
        exact ⟨by simp, .inl ⟨r, _, rfl, run_takeDeferred hw, v, hv, σ', a', _, hm.2.2, hat2, hir, hk.trans hke⟩⟩
  cases x with
  | ret => exact go
  | normal => exact go
  | _ => exact hr.elim
/-- .. of a function that holds a range over a function: one call, from the text. -/
theorem calls_at_marks {e : En} (id : Nat) (he : e.Ok) (hro : (e.F ()).round = none) {f : FuncId} {fn : Func} {c : Code} (hf : (e.P ()).funcs[f]? = some fn) (hb : fn.body = some c) (hck : codeOk fn.ntmps c = true) {sp : Spec} {args : List IV} {M : Mem} {base : Nat}
    (h : ∃ (r : Nat → IV) (news : Nat → List Ob),
      (∀ B O σ w vals, Sim B O σ M w → All2 (IR σ) args vals → ∃ (cargs : List IV) (obs : List Ob) (vs : List Value), cargs.length ≤ fn.ntmps ∧ Lent obs ∧ All2 (fun ob v => ObRel (nameOf vs) w ob v) obs vs ∧ All2 (IR (nameOf vs)) cargs vals ∧
        ∀ B, vc e ⟨fun _ => none, B, fun _ => False, fn.ntmps, some id⟩ c (start cargs obs) fun x st => isRet x ∧ markP e.T fn.results.toList id (fun st => ∃ js, FinBy e.T fn.results.toList js st (r 0) (news 0)) st) ∧
      (sp args M base).r = r base ∧ (sp args M base).news = news base ∧ (sp args M base).upd = [] ∧
      IvLe (tauN base (news 0).length) (r 0) (r base) ∧ All2 (ObLe (tauN base (news 0).length)) (news 0) (news base) ∧ ∀ ob ∈ news base, ob.own = true ∨ ¬ ob.occ)
    (n B : Nat) (O : Nat → Prop) (σ : Ren) (w : World) (vals : List Value) (hS : Sim B O σ M w) (ha : All2 (IR σ) args vals)
    (hnew : ∀ t ob, (sp args M base).news[t]? = some ob → M (base + t) = some ob) (hfree : ∀ t, t < (sp args M base).news.length → σ (base + t) = none) :
    CallsIn (e.F ()) n (e.P ()) f vals.toArray w fun
      | .returned v, w' => ∃ σ', StepOk B O σ (updL M (sp args M base).upd) (sp args M base) base w v w' σ'
      | _, _ => False := by
  obtain ⟨r, news, hloc, hr, hnw, hup, hnat, hnatM, hpriv⟩ := h
  obtain ⟨cargs, obs, vs, hn, hl, hobs, hcargs, hvc⟩ := hloc B O σ w vals hS ha
  have hat0 := start_at (nt := fn.ntmps) hl hobs hcargs hn
  have hat : At ⟨fun _ => none, w.heap.size, fun _ => False, fn.ntmps, some id⟩ (nameOf vs) (start cargs obs) { tmps := vals.toArray ++ Array.replicate (fn.ntmps - vals.toArray.size) undef, defers := [] } w := ⟨hat0.slots, hat0.sim, hat0.dom, hat0.pin, hat0.size, .inl rfl⟩
  refine (calls_of_vc_marks (n := n) he hro hf hb (X := ⟨fun _ => none, w.heap.size, fun _ => False, fn.ntmps, some id⟩) hck rfl hat (Z := fun st => ∃ js, FinBy e.T fn.results.toList js st (r 0) (news 0)) (hvc w.heap.size)).mono fun en w' hen => ?_
  cases en with
  | panicked _ => exact hen.elim
  | outgrown => exact hen.elim
  | returned v =>
    obtain ⟨σ1, a1, st1, ⟨js, hfin⟩, hat1, hir, hk⟩ := hen
    obtain ⟨σ2, hS2, hir2, hdom2⟩ := fin_sim hfin hat1.sim hir
    have hlen : (news base).length = (news 0).length := hnatM.length.symm
    have hM : MemLe (tauN base (news 0).length) (lget (numL 0 (news 0))) M := by
      refine ⟨fun i j ht => ?_, fun i ht => ?_, fun i i' j h1 h2 => ?_⟩
      · unfold tauN at ht
        split at ht
        · rename_i hc
          simp only [Option.some.injEq, Src.old.injEq] at ht
          subst ht
          have hlt : i - base < (news 0).length := by omega
          obtain ⟨ob', h1, h2⟩ := hnatM.get (i - base) (news 0)[i - base] (by simp [hlt])
          refine ⟨(news 0)[i - base], ob', by rw [numL_get]; simp [hlt], ?_, h2⟩
          have := hnew (i - base) ob' (by rw [hnw]; exact h1)
          rw [show base + (i - base) = i by omega] at this
          exact this
        · cases ht
      · unfold tauN at ht
        split at ht <;> cases ht
      · unfold tauN at h1 h2
        split at h1 <;> split at h2
        · simp only [Option.some.injEq, Src.old.injEq] at h1 h2
          omega
        all_goals first | (cases h1; done) | (cases h2; done) | (rename_i h3; cases h3; done) | skip
        all_goals first | contradiction | (simp at h1) | (simp at h2)
    have hS3 := hM.sim hS2
    have hin : ∀ i u, renOf (tauN base (news 0).length) σ2 i = some u → base ≤ i ∧ i < base + (news base).length := by
      intro i u hu
      cases ht : tauN base (news 0).length i with
      | none => simp only [renOf, ht] at hu; cases hu
      | some s =>
        unfold tauN at ht
        split at ht
        · omega
        · cases ht
    have hdis : ∀ i u, renOf (tauN base (news 0).length) σ2 i = some u → σ i = none := by
      intro i u hu
      have hh := hin i u hu
      have := hfree (i - base) (by rw [hnw]; omega)
      rw [show base + (i - base) = i by omega] at this
      exact this
    have hprivM : ∀ i u ob, renOf (tauN base (news 0).length) σ2 i = some u → M i = some ob → ob.own = true ∨ ¬ ob.occ := by
      intro i u ob hu hMi
      have hh := hin i u hu
      have hlt : i - base < (news base).length := by omega
      have := hnew (i - base) (news base)[i - base] (by rw [hnw]; simp [hlt])
      rw [show base + (i - base) = i by omega, hMi] at this
      cases this
      exact hpriv _ (List.getElem_mem hlt)
    refine ⟨fun i => (renOf (tauN base (news 0).length) σ2 i).or (σ i), fun i u hu => ?_, fun i u hu => ?_, ?_, ?_, ?_⟩
    · cases h2 : renOf (tauN base (news 0).length) σ2 i with
      | none => simpa using hu
      | some x => rw [hdis i x h2] at hu; cases hu
    · cases h2 : renOf (tauN base (news 0).length) σ2 i with
      | none => rw [h2] at hu; exact .inl (by simpa using hu)
      | some x => have := hin i x h2; exact .inr (by rw [hnw]; exact this)
    · rw [hr]
      exact (hnat.ok hir2).le fun i u hu => by simp [hu]
    · rw [hup]
      exact join_sim hS hk hS3 hdis hprivM
    · exact ⟨hk.os, hk.tape, hk.output, hk.size, fun b hb _ => hk.block b (Nat.lt_of_lt_of_le hb hS.size) fun h => h⟩
end Go.Proofs.YthgllnnlngihoaaGreat.Sx
end
section
set_option maxRecDepth 100000
namespace Go.Proofs.YthgllnnlngihoaaGreat.Sx
inductive Tr where
  | leaf (t : Nat) (ti : TI)
  | node (t : Nat) (l r : Tr)
def Tr.look : Tr → Tab
  | .leaf t' ti => fun t => match Nat.beq t t' with
    | true => some ti
    | false => none
  | .node t' l r => fun t => match Nat.blt t t' with
    | true => l.look t
    | false => r.look t
def Tr.Ok (P : Program) : Tr → Prop
  | .leaf t ti => EntryOk P t ti
  | .node _ l r => l.Ok P ∧ r.Ok P
theorem Tr.look_ok {P : Program} : ∀ {l : Tr}, l.Ok P → TabOk P l.look
  | .leaf t' ti', h => fun t ti k => by
    simp only [Tr.look] at k
    split at k
    · rename_i e
      cases k
      rw [Nat.eq_of_beq_eq_true e]
      exact h
    · cases k
  | .node t' l r, h => fun t ti k => by
    simp only [Tr.look] at k
    split at k
    · exact Tr.look_ok h.1 t ti k
    · exact Tr.look_ok h.2 t ti k
def tabT : Tr := (.node 130 (.node 60 (.node 27 (.node 9 (.node 4 (.leaf 3 ⟨1, 8, [.int .i64 0], .int .i64⟩) (.node 5 (.leaf 4 ⟨1, 1, [.bool false], .bool⟩) (.leaf 5 ⟨1, 1, [.int .u8 0], .int .u8⟩))) (.node 24 (.node 23 (.leaf 9 ⟨1, 16, [.string ⟨#[]⟩], .str⟩) (.leaf 23 ⟨3, 24, [.int .i64 0, .int .i64 0, .int .i64 0], .struct [(0, 3), (1, 3), (2, 3)]⟩)) (.node 25 (.leaf 24 ⟨1, 24, [.slice none 0 0], .slice 64⟩) (.leaf 25 ⟨1, 24, [.slice none 0 0], .slice 121⟩)))) (.node 37 (.node 31 (.node 28 (.leaf 27 ⟨5, 72, [.int .i64 0, .int .i64 0, .int .i64 0, .slice none 0 0, .slice none 0 0], .struct [(0, 23), (3, 24), (4, 25)]⟩) (.leaf 28 ⟨1, 24, [.slice none 0 0], .slice 3⟩)) (.node 34 (.leaf 31 ⟨1, 8, [.int .i64 0], .int .i64⟩) (.leaf 34 ⟨1, 24, [.slice none 0 0], .slice 62⟩))) (.node 44 (.node 40 (.leaf 37 ⟨1, 24, [.slice none 0 0], .slice 60⟩) (.leaf 40 ⟨1, 24, [.slice none 0 0], .slice 9⟩)) (.node 53 (.leaf 44 ⟨4, 80, [.slice none 0 0, .slice none 0 0, .slice none 0 0, .int .i64 0], .struct [(0, 34), (1, 37), (2, 40), (3, 31)]⟩) (.leaf 53 ⟨2, 32, [.slice none 0 0, .int .i64 0], .struct [(0, 28), (1, 31)]⟩))))) (.node 97 (.node 83 (.node 64 (.node 62 (.leaf 60 ⟨2, 16, [.int .i64 0, .int .i64 0], .struct [(0, 3), (1, 3)]⟩) (.leaf 62 ⟨4, 32, [.int .i64 0, .int .i64 0, .int .i64 0, .int .i64 0], .struct [(0, 60), (2, 60)]⟩)) (.node 72 (.leaf 64 ⟨9, 80, [.int .i64 0, .int .i64 0, .int .i64 0, .int .i64 0, .int .i64 0, .int .i64 0, .string ⟨#[]⟩, .int .i64 0, .int .i64 0], .struct [(0, 3), (1, 3), (2, 62), (6, 9), (7, 60)]⟩) (.leaf 72 ⟨2, 32, [.slice none 0 0, .int .i64 0], .struct [(0, 34), (1, 31)]⟩))) (.node 90 (.node 85 (.leaf 83 ⟨1, 24, [.slice none 0 0], .slice 96⟩) (.leaf 85 ⟨4, 96, [.slice none 0 0, .slice none 0 0, .slice none 0 0, .slice none 0 0], .struct [(0, 83), (1, 40), (2, 28), (3, 28)]⟩)) (.node 96 (.leaf 90 ⟨3, 24, [.int .i64 0, .bool false, .int .i64 0], .struct [(0, 3), (1, 4), (2, 31)]⟩) (.leaf 96 ⟨2, 16, [.int .i64 0, .int .i64 0], .struct [(0, 3), (1, 3)]⟩)))) (.node 109 (.node 102 (.node 101 (.leaf 97 ⟨1, 24, [.slice none 0 0], .slice 109⟩) (.leaf 101 ⟨1, 24, [.slice none 0 0], .slice 103⟩)) (.node 103 (.leaf 102 ⟨1, 2, [.int .i16 0], .int .i16⟩) (.leaf 103 ⟨2, 4, [.int .i16 0, .int .i16 0], .array 2 102⟩))) (.node 121 (.node 113 (.leaf 109 ⟨2, 16, [.int .i64 0, .int .i64 0], .struct [(0, 3), (1, 3)]⟩) (.leaf 113 ⟨2, 32, [.slice none 0 0, .int .i64 0], .struct [(0, 97), (1, 31)]⟩)) (.node 124 (.leaf 121 ⟨4, 32, [.int .i64 0, .int .i64 0, .int .i64 0, .int .i64 0], .struct [(0, 3), (1, 3), (2, 3), (3, 3)]⟩) (.leaf 124 ⟨3, 72, [.slice none 0 0, .slice none 0 0, .slice none 0 0], .struct [(0, 34), (1, 37), (2, 40)]⟩)))))) (.node 187 (.node 174 (.node 155 (.node 139 (.leaf 130 ⟨3, 72, [.slice none 0 0, .slice none 0 0, .slice none 0 0], .struct [(0, 37), (1, 37), (2, 37)]⟩) (.node 151 (.leaf 139 ⟨1, 8, [.nilFunc], .func⟩) (.leaf 151 ⟨1, 24, [.slice none 0 0], .slice 5⟩))) (.node 167 (.node 163 (.leaf 155 ⟨1, 8, [.nilFunc], .func⟩) (.leaf 163 ⟨1, 8, [.map none], .map 3 4⟩)) (.node 173 (.leaf 167 ⟨1, 8, [.pointer none], .ptr 176⟩) (.leaf 173 ⟨1, 8, [.nilFunc], .func⟩)))) (.node 181 (.node 178 (.node 176 (.leaf 174 ⟨1, 8, [.map none], .map 3 3⟩) (.leaf 176 ⟨2, 32, [.slice none 0 0, .map none], .struct [(0, 97), (1, 174)]⟩)) (.node 179 (.leaf 178 ⟨1, 8, [.nilFunc], .func⟩) (.leaf 179 ⟨1, 8, [.nilFunc], .func⟩))) (.node 183 (.node 182 (.leaf 181 ⟨2, 16, [.nilFunc, .nilFunc], .struct [(0, 179), (1, 179)]⟩) (.leaf 182 ⟨1, 8, [.nilFunc], .func⟩)) (.node 186 (.leaf 183 ⟨3, 24, [.nilFunc, .nilFunc, .nilFunc], .array 3 182⟩) (.leaf 186 ⟨3, 24, [.int .i64 0, .int .i64 0, .int .i64 0], .struct [(0, 23)]⟩))))) (.node 214 (.node 199 (.node 191 (.node 188 (.leaf 187 ⟨1, 8, [.nilFunc], .func⟩) (.leaf 188 ⟨1, 24, [.slice none 0 0], .slice 191⟩)) (.node 192 (.leaf 191 ⟨2, 16, [.int .i64 0, .int .i64 0], .struct [(0, 3), (1, 3)]⟩) (.leaf 192 ⟨1, 8, [.nilFunc], .func⟩))) (.node 211 (.node 208 (.leaf 199 ⟨1, 8, [.int .u64 0], .int .u64⟩) (.leaf 208 ⟨1, 8, [.nilFunc], .func⟩)) (.node 212 (.leaf 211 ⟨1, 8, [.pointer none], .ptr 214⟩) (.leaf 212 ⟨1, 24, [.slice none 0 0], .slice 4⟩)))) (.node 231 (.node 220 (.node 215 (.leaf 214 ⟨3, 72, [.slice none 0 0, .slice none 0 0, .slice none 0 0], .struct [(0, 97), (1, 28), (2, 212)]⟩) (.leaf 215 ⟨1, 8, [.nilFunc], .func⟩)) (.node 229 (.leaf 220 ⟨1, 8, [.int .i64 0], .int .i64⟩) (.leaf 229 ⟨1, 4, [.int .u32 0], .int .u32⟩))) (.node 239 (.node 232 (.leaf 231 ⟨1, 8, [.int .u64 0], .int .u64⟩) (.leaf 232 ⟨1, 24, [.slice none 0 0], .slice 24⟩)) (.node 243 (.leaf 239 ⟨1, 8, [.int .u64 0], .int .u64⟩) (.leaf 243 ⟨1, 8, [.pointer none], .ptr 3⟩)))))))
def tab : Tab := fun t => match Nat.blt t 130 with
  | true => match Nat.blt t 60 with
    | true => match Nat.blt t 27 with
      | true => match Nat.blt t 9 with
        | true => match Nat.blt t 4 with
          | true => match Nat.beq t 3 with
            | true => some ⟨1, 8, [.int .i64 0], .int .i64⟩
            | false => none
          | false => match Nat.blt t 5 with
            | true => match Nat.beq t 4 with
              | true => some ⟨1, 1, [.bool false], .bool⟩
              | false => none
            | false => match Nat.beq t 5 with
              | true => some ⟨1, 1, [.int .u8 0], .int .u8⟩
              | false => none
        | false => match Nat.blt t 24 with
          | true => match Nat.blt t 23 with
            | true => match Nat.beq t 9 with
              | true => some ⟨1, 16, [.string ⟨#[]⟩], .str⟩
              | false => none
            | false => match Nat.beq t 23 with
              | true => some ⟨3, 24, [.int .i64 0, .int .i64 0, .int .i64 0], .struct [(0, 3), (1, 3), (2, 3)]⟩
              | false => none
          | false => match Nat.blt t 25 with
            | true => match Nat.beq t 24 with
              | true => some ⟨1, 24, [.slice none 0 0], .slice 64⟩
              | false => none
            | false => match Nat.beq t 25 with
              | true => some ⟨1, 24, [.slice none 0 0], .slice 121⟩
              | false => none
      | false => match Nat.blt t 37 with
        | true => match Nat.blt t 31 with
          | true => match Nat.blt t 28 with
            | true => match Nat.beq t 27 with
              | true => some ⟨5, 72, [.int .i64 0, .int .i64 0, .int .i64 0, .slice none 0 0, .slice none 0 0], .struct [(0, 23), (3, 24), (4, 25)]⟩
              | false => none
            | false => match Nat.beq t 28 with
              | true => some ⟨1, 24, [.slice none 0 0], .slice 3⟩
              | false => none
          | false => match Nat.blt t 34 with
            | true => match Nat.beq t 31 with
              | true => some ⟨1, 8, [.int .i64 0], .int .i64⟩
              | false => none
            | false => match Nat.beq t 34 with
              | true => some ⟨1, 24, [.slice none 0 0], .slice 62⟩
              | false => none
        | false => match Nat.blt t 44 with
          | true => match Nat.blt t 40 with
            | true => match Nat.beq t 37 with
              | true => some ⟨1, 24, [.slice none 0 0], .slice 60⟩
              | false => none
            | false => match Nat.beq t 40 with
              | true => some ⟨1, 24, [.slice none 0 0], .slice 9⟩
              | false => none
          | false => match Nat.blt t 53 with
            | true => match Nat.beq t 44 with
              | true => some ⟨4, 80, [.slice none 0 0, .slice none 0 0, .slice none 0 0, .int .i64 0], .struct [(0, 34), (1, 37), (2, 40), (3, 31)]⟩
              | false => none
            | false => match Nat.beq t 53 with
              | true => some ⟨2, 32, [.slice none 0 0, .int .i64 0], .struct [(0, 28), (1, 31)]⟩
              | false => none
    | false => match Nat.blt t 97 with
      | true => match Nat.blt t 83 with
        | true => match Nat.blt t 64 with
          | true => match Nat.blt t 62 with
            | true => match Nat.beq t 60 with
              | true => some ⟨2, 16, [.int .i64 0, .int .i64 0], .struct [(0, 3), (1, 3)]⟩
              | false => none
            | false => match Nat.beq t 62 with
              | true => some ⟨4, 32, [.int .i64 0, .int .i64 0, .int .i64 0, .int .i64 0], .struct [(0, 60), (2, 60)]⟩
              | false => none
          | false => match Nat.blt t 72 with
            | true => match Nat.beq t 64 with
              | true => some ⟨9, 80, [.int .i64 0, .int .i64 0, .int .i64 0, .int .i64 0, .int .i64 0, .int .i64 0, .string ⟨#[]⟩, .int .i64 0, .int .i64 0], .struct [(0, 3), (1, 3), (2, 62), (6, 9), (7, 60)]⟩
              | false => none
            | false => match Nat.beq t 72 with
              | true => some ⟨2, 32, [.slice none 0 0, .int .i64 0], .struct [(0, 34), (1, 31)]⟩
              | false => none
        | false => match Nat.blt t 90 with
          | true => match Nat.blt t 85 with
            | true => match Nat.beq t 83 with
              | true => some ⟨1, 24, [.slice none 0 0], .slice 96⟩
              | false => none
            | false => match Nat.beq t 85 with
              | true => some ⟨4, 96, [.slice none 0 0, .slice none 0 0, .slice none 0 0, .slice none 0 0], .struct [(0, 83), (1, 40), (2, 28), (3, 28)]⟩
              | false => none
          | false => match Nat.blt t 96 with
            | true => match Nat.beq t 90 with
              | true => some ⟨3, 24, [.int .i64 0, .bool false, .int .i64 0], .struct [(0, 3), (1, 4), (2, 31)]⟩
              | false => none
            | false => match Nat.beq t 96 with
              | true => some ⟨2, 16, [.int .i64 0, .int .i64 0], .struct [(0, 3), (1, 3)]⟩
              | false => none
      | false => match Nat.blt t 109 with
        | true => match Nat.blt t 102 with
          | true => match Nat.blt t 101 with
            | true => match Nat.beq t 97 with
              | true => some ⟨1, 24, [.slice none 0 0], .slice 109⟩
              | false => none
            | false => match Nat.beq t 101 with
              | true => some ⟨1, 24, [.slice none 0 0], .slice 103⟩
              | false => none
          | false => match Nat.blt t 103 with
            | true => match Nat.beq t 102 with
              | true => some ⟨1, 2, [.int .i16 0], .int .i16⟩
              | false => none
            | false => match Nat.beq t 103 with
              | true => some ⟨2, 4, [.int .i16 0, .int .i16 0], .array 2 102⟩
              | false => none
        | false => match Nat.blt t 121 with
          | true => match Nat.blt t 113 with
            | true => match Nat.beq t 109 with
              | true => some ⟨2, 16, [.int .i64 0, .int .i64 0], .struct [(0, 3), (1, 3)]⟩
              | false => none
            | false => match Nat.beq t 113 with
              | true => some ⟨2, 32, [.slice none 0 0, .int .i64 0], .struct [(0, 97), (1, 31)]⟩
              | false => none
          | false => match Nat.blt t 124 with
            | true => match Nat.beq t 121 with
              | true => some ⟨4, 32, [.int .i64 0, .int .i64 0, .int .i64 0, .int .i64 0], .struct [(0, 3), (1, 3), (2, 3), (3, 3)]⟩
              | false => none
            | false => match Nat.beq t 124 with
              | true => some ⟨3, 72, [.slice none 0 0, .slice none 0 0, .slice none 0 0], .struct [(0, 34), (1, 37), (2, 40)]⟩
              | false => none
  | false => match Nat.blt t 187 with
    | true => match Nat.blt t 174 with
      | true => match Nat.blt t 155 with
        | true => match Nat.blt t 139 with
          | true => match Nat.beq t 130 with
            | true => some ⟨3, 72, [.slice none 0 0, .slice none 0 0, .slice none 0 0], .struct [(0, 37), (1, 37), (2, 37)]⟩
            | false => none
          | false => match Nat.blt t 151 with
            | true => match Nat.beq t 139 with
              | true => some ⟨1, 8, [.nilFunc], .func⟩
              | false => none
            | false => match Nat.beq t 151 with
              | true => some ⟨1, 24, [.slice none 0 0], .slice 5⟩
              | false => none
        | false => match Nat.blt t 167 with
          | true => match Nat.blt t 163 with
            | true => match Nat.beq t 155 with
              | true => some ⟨1, 8, [.nilFunc], .func⟩
              | false => none
            | false => match Nat.beq t 163 with
              | true => some ⟨1, 8, [.map none], .map 3 4⟩
              | false => none
          | false => match Nat.blt t 173 with
            | true => match Nat.beq t 167 with
              | true => some ⟨1, 8, [.pointer none], .ptr 176⟩
              | false => none
            | false => match Nat.beq t 173 with
              | true => some ⟨1, 8, [.nilFunc], .func⟩
              | false => none
      | false => match Nat.blt t 181 with
        | true => match Nat.blt t 178 with
          | true => match Nat.blt t 176 with
            | true => match Nat.beq t 174 with
              | true => some ⟨1, 8, [.map none], .map 3 3⟩
              | false => none
            | false => match Nat.beq t 176 with
              | true => some ⟨2, 32, [.slice none 0 0, .map none], .struct [(0, 97), (1, 174)]⟩
              | false => none
          | false => match Nat.blt t 179 with
            | true => match Nat.beq t 178 with
              | true => some ⟨1, 8, [.nilFunc], .func⟩
              | false => none
            | false => match Nat.beq t 179 with
              | true => some ⟨1, 8, [.nilFunc], .func⟩
              | false => none
        | false => match Nat.blt t 183 with
          | true => match Nat.blt t 182 with
            | true => match Nat.beq t 181 with
              | true => some ⟨2, 16, [.nilFunc, .nilFunc], .struct [(0, 179), (1, 179)]⟩
              | false => none
            | false => match Nat.beq t 182 with
              | true => some ⟨1, 8, [.nilFunc], .func⟩
              | false => none
          | false => match Nat.blt t 186 with
            | true => match Nat.beq t 183 with
              | true => some ⟨3, 24, [.nilFunc, .nilFunc, .nilFunc], .array 3 182⟩
              | false => none
            | false => match Nat.beq t 186 with
              | true => some ⟨3, 24, [.int .i64 0, .int .i64 0, .int .i64 0], .struct [(0, 23)]⟩
              | false => none
    | false => match Nat.blt t 214 with
      | true => match Nat.blt t 199 with
        | true => match Nat.blt t 191 with
          | true => match Nat.blt t 188 with
            | true => match Nat.beq t 187 with
              | true => some ⟨1, 8, [.nilFunc], .func⟩
              | false => none
            | false => match Nat.beq t 188 with
              | true => some ⟨1, 24, [.slice none 0 0], .slice 191⟩
              | false => none
          | false => match Nat.blt t 192 with
            | true => match Nat.beq t 191 with
              | true => some ⟨2, 16, [.int .i64 0, .int .i64 0], .struct [(0, 3), (1, 3)]⟩
              | false => none
            | false => match Nat.beq t 192 with
              | true => some ⟨1, 8, [.nilFunc], .func⟩
              | false => none
        | false => match Nat.blt t 211 with
          | true => match Nat.blt t 208 with
            | true => match Nat.beq t 199 with
              | true => some ⟨1, 8, [.int .u64 0], .int .u64⟩
              | false => none
            | false => match Nat.beq t 208 with
              | true => some ⟨1, 8, [.nilFunc], .func⟩
              | false => none
          | false => match Nat.blt t 212 with
            | true => match Nat.beq t 211 with
              | true => some ⟨1, 8, [.pointer none], .ptr 214⟩
              | false => none
            | false => match Nat.beq t 212 with
              | true => some ⟨1, 24, [.slice none 0 0], .slice 4⟩
              | false => none
      | false => match Nat.blt t 231 with
        | true => match Nat.blt t 220 with
          | true => match Nat.blt t 215 with
            | true => match Nat.beq t 214 with
              | true => some ⟨3, 72, [.slice none 0 0, .slice none 0 0, .slice none 0 0], .struct [(0, 97), (1, 28), (2, 212)]⟩
              | false => none
            | false => match Nat.beq t 215 with
              | true => some ⟨1, 8, [.nilFunc], .func⟩
              | false => none
          | false => match Nat.blt t 229 with
            | true => match Nat.beq t 220 with
              | true => some ⟨1, 8, [.int .i64 0], .int .i64⟩
              | false => none
            | false => match Nat.beq t 229 with
              | true => some ⟨1, 4, [.int .u32 0], .int .u32⟩
              | false => none
        | false => match Nat.blt t 239 with
          | true => match Nat.blt t 232 with
            | true => match Nat.beq t 231 with
              | true => some ⟨1, 8, [.int .u64 0], .int .u64⟩
              | false => none
            | false => match Nat.beq t 232 with
              | true => some ⟨1, 24, [.slice none 0 0], .slice 24⟩
              | false => none
          | false => match Nat.blt t 243 with
            | true => match Nat.beq t 239 with
              | true => some ⟨1, 8, [.int .u64 0], .int .u64⟩
              | false => none
            | false => match Nat.beq t 243 with
              | true => some ⟨1, 8, [.pointer none], .ptr 3⟩
              | false => none
theorem tab_eq : tab = tabT.look := rfl
theorem ent_3 : EntryOk Tryz.prog 3 ⟨1, 8, [.int .i64 0], .int .i64⟩ := ⟨by kernel_rfl, by kernel_rfl, rfl, rfl, fun h => by first | rfl | cases h⟩
theorem ent_4 : EntryOk Tryz.prog 4 ⟨1, 1, [.bool false], .bool⟩ := ⟨by kernel_rfl, by kernel_rfl, rfl, rfl, fun h => by first | rfl | cases h⟩
theorem ent_5 : EntryOk Tryz.prog 5 ⟨1, 1, [.int .u8 0], .int .u8⟩ := ⟨by kernel_rfl, by kernel_rfl, rfl, rfl, fun h => by first | rfl | cases h⟩
theorem ent_9 : EntryOk Tryz.prog 9 ⟨1, 16, [.string ⟨#[]⟩], .str⟩ := ⟨by kernel_rfl, by kernel_rfl, rfl, rfl, fun h => by first | rfl | cases h⟩
theorem ent_23 : EntryOk Tryz.prog 23 ⟨3, 24, [.int .i64 0, .int .i64 0, .int .i64 0], .struct [(0, 3), (1, 3), (2, 3)]⟩ := ⟨by kernel_rfl, by kernel_rfl, rfl, rfl, fun h => by first | rfl | cases h⟩
theorem ent_24 : EntryOk Tryz.prog 24 ⟨1, 24, [.slice none 0 0], .slice 64⟩ := ⟨by kernel_rfl, by kernel_rfl, rfl, rfl, fun h => by first | rfl | cases h⟩
theorem ent_25 : EntryOk Tryz.prog 25 ⟨1, 24, [.slice none 0 0], .slice 121⟩ := ⟨by kernel_rfl, by kernel_rfl, rfl, rfl, fun h => by first | rfl | cases h⟩
theorem ent_27 : EntryOk Tryz.prog 27 ⟨5, 72, [.int .i64 0, .int .i64 0, .int .i64 0, .slice none 0 0, .slice none 0 0], .struct [(0, 23), (3, 24), (4, 25)]⟩ := ⟨by kernel_rfl, by kernel_rfl, rfl, rfl, fun h => by first | rfl | cases h⟩
theorem ent_28 : EntryOk Tryz.prog 28 ⟨1, 24, [.slice none 0 0], .slice 3⟩ := ⟨by kernel_rfl, by kernel_rfl, rfl, rfl, fun h => by first | rfl | cases h⟩
theorem ent_31 : EntryOk Tryz.prog 31 ⟨1, 8, [.int .i64 0], .int .i64⟩ := ⟨by kernel_rfl, by kernel_rfl, rfl, rfl, fun h => by first | rfl | cases h⟩
theorem ent_34 : EntryOk Tryz.prog 34 ⟨1, 24, [.slice none 0 0], .slice 62⟩ := ⟨by kernel_rfl, by kernel_rfl, rfl, rfl, fun h => by first | rfl | cases h⟩
theorem ent_37 : EntryOk Tryz.prog 37 ⟨1, 24, [.slice none 0 0], .slice 60⟩ := ⟨by kernel_rfl, by kernel_rfl, rfl, rfl, fun h => by first | rfl | cases h⟩
theorem ent_40 : EntryOk Tryz.prog 40 ⟨1, 24, [.slice none 0 0], .slice 9⟩ := ⟨by kernel_rfl, by kernel_rfl, rfl, rfl, fun h => by first | rfl | cases h⟩
theorem ent_44 : EntryOk Tryz.prog 44 ⟨4, 80, [.slice none 0 0, .slice none 0 0, .slice none 0 0, .int .i64 0], .struct [(0, 34), (1, 37), (2, 40), (3, 31)]⟩ := ⟨by kernel_rfl, by kernel_rfl, rfl, rfl, fun h => by first | rfl | cases h⟩
theorem ent_53 : EntryOk Tryz.prog 53 ⟨2, 32, [.slice none 0 0, .int .i64 0], .struct [(0, 28), (1, 31)]⟩ := ⟨by kernel_rfl, by kernel_rfl, rfl, rfl, fun h => by first | rfl | cases h⟩
theorem ent_60 : EntryOk Tryz.prog 60 ⟨2, 16, [.int .i64 0, .int .i64 0], .struct [(0, 3), (1, 3)]⟩ := ⟨by kernel_rfl, by kernel_rfl, rfl, rfl, fun h => by first | rfl | cases h⟩
theorem ent_62 : EntryOk Tryz.prog 62 ⟨4, 32, [.int .i64 0, .int .i64 0, .int .i64 0, .int .i64 0], .struct [(0, 60), (2, 60)]⟩ := ⟨by kernel_rfl, by kernel_rfl, rfl, rfl, fun h => by first | rfl | cases h⟩
theorem ent_64 : EntryOk Tryz.prog 64 ⟨9, 80, [.int .i64 0, .int .i64 0, .int .i64 0, .int .i64 0, .int .i64 0, .int .i64 0, .string ⟨#[]⟩, .int .i64 0, .int .i64 0], .struct [(0, 3), (1, 3), (2, 62), (6, 9), (7, 60)]⟩ := ⟨by kernel_rfl, by kernel_rfl, rfl, rfl, fun h => by first | rfl | cases h⟩
theorem ent_72 : EntryOk Tryz.prog 72 ⟨2, 32, [.slice none 0 0, .int .i64 0], .struct [(0, 34), (1, 31)]⟩ := ⟨by kernel_rfl, by kernel_rfl, rfl, rfl, fun h => by first | rfl | cases h⟩
theorem ent_83 : EntryOk Tryz.prog 83 ⟨1, 24, [.slice none 0 0], .slice 96⟩ := ⟨by kernel_rfl, by kernel_rfl, rfl, rfl, fun h => by first | rfl | cases h⟩
theorem ent_85 : EntryOk Tryz.prog 85 ⟨4, 96, [.slice none 0 0, .slice none 0 0, .slice none 0 0, .slice none 0 0], .struct [(0, 83), (1, 40), (2, 28), (3, 28)]⟩ := ⟨by kernel_rfl, by kernel_rfl, rfl, rfl, fun h => by first | rfl | cases h⟩
theorem ent_90 : EntryOk Tryz.prog 90 ⟨3, 24, [.int .i64 0, .bool false, .int .i64 0], .struct [(0, 3), (1, 4), (2, 31)]⟩ := ⟨by kernel_rfl, by kernel_rfl, rfl, rfl, fun h => by first | rfl | cases h⟩
theorem ent_96 : EntryOk Tryz.prog 96 ⟨2, 16, [.int .i64 0, .int .i64 0], .struct [(0, 3), (1, 3)]⟩ := ⟨by kernel_rfl, by kernel_rfl, rfl, rfl, fun h => by first | rfl | cases h⟩
theorem ent_97 : EntryOk Tryz.prog 97 ⟨1, 24, [.slice none 0 0], .slice 109⟩ := ⟨by kernel_rfl, by kernel_rfl, rfl, rfl, fun h => by first | rfl | cases h⟩
theorem ent_101 : EntryOk Tryz.prog 101 ⟨1, 24, [.slice none 0 0], .slice 103⟩ := ⟨by kernel_rfl, by kernel_rfl, rfl, rfl, fun h => by first | rfl | cases h⟩
theorem ent_102 : EntryOk Tryz.prog 102 ⟨1, 2, [.int .i16 0], .int .i16⟩ := ⟨by kernel_rfl, by kernel_rfl, rfl, rfl, fun h => by first | rfl | cases h⟩
theorem ent_103 : EntryOk Tryz.prog 103 ⟨2, 4, [.int .i16 0, .int .i16 0], .array 2 102⟩ := ⟨by kernel_rfl, by kernel_rfl, rfl, rfl, fun h => by first | rfl | cases h⟩
theorem ent_109 : EntryOk Tryz.prog 109 ⟨2, 16, [.int .i64 0, .int .i64 0], .struct [(0, 3), (1, 3)]⟩ := ⟨by kernel_rfl, by kernel_rfl, rfl, rfl, fun h => by first | rfl | cases h⟩
theorem ent_113 : EntryOk Tryz.prog 113 ⟨2, 32, [.slice none 0 0, .int .i64 0], .struct [(0, 97), (1, 31)]⟩ := ⟨by kernel_rfl, by kernel_rfl, rfl, rfl, fun h => by first | rfl | cases h⟩
theorem ent_121 : EntryOk Tryz.prog 121 ⟨4, 32, [.int .i64 0, .int .i64 0, .int .i64 0, .int .i64 0], .struct [(0, 3), (1, 3), (2, 3), (3, 3)]⟩ := ⟨by kernel_rfl, by kernel_rfl, rfl, rfl, fun h => by first | rfl | cases h⟩
theorem ent_124 : EntryOk Tryz.prog 124 ⟨3, 72, [.slice none 0 0, .slice none 0 0, .slice none 0 0], .struct [(0, 34), (1, 37), (2, 40)]⟩ := ⟨by kernel_rfl, by kernel_rfl, rfl, rfl, fun h => by first | rfl | cases h⟩
theorem ent_130 : EntryOk Tryz.prog 130 ⟨3, 72, [.slice none 0 0, .slice none 0 0, .slice none 0 0], .struct [(0, 37), (1, 37), (2, 37)]⟩ := ⟨by kernel_rfl, by kernel_rfl, rfl, rfl, fun h => by first | rfl | cases h⟩
theorem ent_139 : EntryOk Tryz.prog 139 ⟨1, 8, [.nilFunc], .func⟩ := ⟨by kernel_rfl, by kernel_rfl, rfl, rfl, fun h => by first | rfl | cases h⟩
theorem ent_151 : EntryOk Tryz.prog 151 ⟨1, 24, [.slice none 0 0], .slice 5⟩ := ⟨by kernel_rfl, by kernel_rfl, rfl, rfl, fun h => by first | rfl | cases h⟩
theorem ent_155 : EntryOk Tryz.prog 155 ⟨1, 8, [.nilFunc], .func⟩ := ⟨by kernel_rfl, by kernel_rfl, rfl, rfl, fun h => by first | rfl | cases h⟩
theorem ent_163 : EntryOk Tryz.prog 163 ⟨1, 8, [.map none], .map 3 4⟩ := ⟨by kernel_rfl, by kernel_rfl, rfl, rfl, fun h => by first | rfl | cases h⟩
theorem ent_167 : EntryOk Tryz.prog 167 ⟨1, 8, [.pointer none], .ptr 176⟩ := ⟨by kernel_rfl, by kernel_rfl, rfl, rfl, fun h => by first | rfl | cases h⟩
theorem ent_173 : EntryOk Tryz.prog 173 ⟨1, 8, [.nilFunc], .func⟩ := ⟨by kernel_rfl, by kernel_rfl, rfl, rfl, fun h => by first | rfl | cases h⟩
theorem ent_174 : EntryOk Tryz.prog 174 ⟨1, 8, [.map none], .map 3 3⟩ := ⟨by kernel_rfl, by kernel_rfl, rfl, rfl, fun h => by first | rfl | cases h⟩
theorem ent_176 : EntryOk Tryz.prog 176 ⟨2, 32, [.slice none 0 0, .map none], .struct [(0, 97), (1, 174)]⟩ := ⟨by kernel_rfl, by kernel_rfl, rfl, rfl, fun h => by first | rfl | cases h⟩
theorem ent_178 : EntryOk Tryz.prog 178 ⟨1, 8, [.nilFunc], .func⟩ := ⟨by kernel_rfl, by kernel_rfl, rfl, rfl, fun h => by first | rfl | cases h⟩
theorem ent_179 : EntryOk Tryz.prog 179 ⟨1, 8, [.nilFunc], .func⟩ := ⟨by kernel_rfl, by kernel_rfl, rfl, rfl, fun h => by first | rfl | cases h⟩
theorem ent_181 : EntryOk Tryz.prog 181 ⟨2, 16, [.nilFunc, .nilFunc], .struct [(0, 179), (1, 179)]⟩ := ⟨by kernel_rfl, by kernel_rfl, rfl, rfl, fun h => by first | rfl | cases h⟩
theorem ent_182 : EntryOk Tryz.prog 182 ⟨1, 8, [.nilFunc], .func⟩ := ⟨by kernel_rfl, by kernel_rfl, rfl, rfl, fun h => by first | rfl | cases h⟩
theorem ent_183 : EntryOk Tryz.prog 183 ⟨3, 24, [.nilFunc, .nilFunc, .nilFunc], .array 3 182⟩ := ⟨by kernel_rfl, by kernel_rfl, rfl, rfl, fun h => by first | rfl | cases h⟩
theorem ent_186 : EntryOk Tryz.prog 186 ⟨3, 24, [.int .i64 0, .int .i64 0, .int .i64 0], .struct [(0, 23)]⟩ := ⟨by kernel_rfl, by kernel_rfl, rfl, rfl, fun h => by first | rfl | cases h⟩
theorem ent_187 : EntryOk Tryz.prog 187 ⟨1, 8, [.nilFunc], .func⟩ := ⟨by kernel_rfl, by kernel_rfl, rfl, rfl, fun h => by first | rfl | cases h⟩
theorem ent_188 : EntryOk Tryz.prog 188 ⟨1, 24, [.slice none 0 0], .slice 191⟩ := ⟨by kernel_rfl, by kernel_rfl, rfl, rfl, fun h => by first | rfl | cases h⟩
theorem ent_191 : EntryOk Tryz.prog 191 ⟨2, 16, [.int .i64 0, .int .i64 0], .struct [(0, 3), (1, 3)]⟩ := ⟨by kernel_rfl, by kernel_rfl, rfl, rfl, fun h => by first | rfl | cases h⟩
theorem ent_192 : EntryOk Tryz.prog 192 ⟨1, 8, [.nilFunc], .func⟩ := ⟨by kernel_rfl, by kernel_rfl, rfl, rfl, fun h => by first | rfl | cases h⟩
theorem ent_199 : EntryOk Tryz.prog 199 ⟨1, 8, [.int .u64 0], .int .u64⟩ := ⟨by kernel_rfl, by kernel_rfl, rfl, rfl, fun h => by first | rfl | cases h⟩
theorem ent_208 : EntryOk Tryz.prog 208 ⟨1, 8, [.nilFunc], .func⟩ := ⟨by kernel_rfl, by kernel_rfl, rfl, rfl, fun h => by first | rfl | cases h⟩
theorem ent_211 : EntryOk Tryz.prog 211 ⟨1, 8, [.pointer none], .ptr 214⟩ := ⟨by kernel_rfl, by kernel_rfl, rfl, rfl, fun h => by first | rfl | cases h⟩
theorem ent_212 : EntryOk Tryz.prog 212 ⟨1, 24, [.slice none 0 0], .slice 4⟩ := ⟨by kernel_rfl, by kernel_rfl, rfl, rfl, fun h => by first | rfl | cases h⟩
theorem ent_214 : EntryOk Tryz.prog 214 ⟨3, 72, [.slice none 0 0, .slice none 0 0, .slice none 0 0], .struct [(0, 97), (1, 28), (2, 212)]⟩ := ⟨by kernel_rfl, by kernel_rfl, rfl, rfl, fun h => by first | rfl | cases h⟩
theorem ent_215 : EntryOk Tryz.prog 215 ⟨1, 8, [.nilFunc], .func⟩ := ⟨by kernel_rfl, by kernel_rfl, rfl, rfl, fun h => by first | rfl | cases h⟩
theorem ent_220 : EntryOk Tryz.prog 220 ⟨1, 8, [.int .i64 0], .int .i64⟩ := ⟨by kernel_rfl, by kernel_rfl, rfl, rfl, fun h => by first | rfl | cases h⟩
theorem ent_229 : EntryOk Tryz.prog 229 ⟨1, 4, [.int .u32 0], .int .u32⟩ := ⟨by kernel_rfl, by kernel_rfl, rfl, rfl, fun h => by first | rfl | cases h⟩
theorem ent_231 : EntryOk Tryz.prog 231 ⟨1, 8, [.int .u64 0], .int .u64⟩ := ⟨by kernel_rfl, by kernel_rfl, rfl, rfl, fun h => by first | rfl | cases h⟩
theorem ent_232 : EntryOk Tryz.prog 232 ⟨1, 24, [.slice none 0 0], .slice 24⟩ := ⟨by kernel_rfl, by kernel_rfl, rfl, rfl, fun h => by first | rfl | cases h⟩
theorem ent_239 : EntryOk Tryz.prog 239 ⟨1, 8, [.int .u64 0], .int .u64⟩ := ⟨by kernel_rfl, by kernel_rfl, rfl, rfl, fun h => by first | rfl | cases h⟩
theorem ent_243 : EntryOk Tryz.prog 243 ⟨1, 8, [.pointer none], .ptr 3⟩ := ⟨by kernel_rfl, by kernel_rfl, rfl, rfl, fun h => by first | rfl | cases h⟩
theorem tab_ok : TabOk Tryz.prog tab := by
  rw [tab_eq]
  exact Tr.look_ok ⟨⟨⟨⟨⟨ent_3, ⟨ent_4, ent_5⟩⟩, ⟨⟨ent_9, ent_23⟩, ⟨ent_24, ent_25⟩⟩⟩, ⟨⟨⟨ent_27, ent_28⟩, ⟨ent_31, ent_34⟩⟩, ⟨⟨ent_37, ent_40⟩, ⟨ent_44, ent_53⟩⟩⟩⟩, ⟨⟨⟨⟨ent_60, ent_62⟩, ⟨ent_64, ent_72⟩⟩, ⟨⟨ent_83, ent_85⟩, ⟨ent_90, ent_96⟩⟩⟩, ⟨⟨⟨ent_97, ent_101⟩, ⟨ent_102, ent_103⟩⟩, ⟨⟨ent_109, ent_113⟩, ⟨ent_121, ent_124⟩⟩⟩⟩⟩, ⟨⟨⟨⟨ent_130, ⟨ent_139, ent_151⟩⟩, ⟨⟨ent_155, ent_163⟩, ⟨ent_167, ent_173⟩⟩⟩, ⟨⟨⟨ent_174, ent_176⟩, ⟨ent_178, ent_179⟩⟩, ⟨⟨ent_181, ent_182⟩, ⟨ent_183, ent_186⟩⟩⟩⟩, ⟨⟨⟨⟨ent_187, ent_188⟩, ⟨ent_191, ent_192⟩⟩, ⟨⟨ent_199, ent_208⟩, ⟨ent_211, ent_212⟩⟩⟩, ⟨⟨⟨ent_214, ent_215⟩, ⟨ent_220, ent_229⟩⟩, ⟨⟨ent_231, ent_232⟩, ⟨ent_239, ent_243⟩⟩⟩⟩⟩⟩
theorem tab_test : (tab 64).map (·.size) = some 9 := by cbv
end Go.Proofs.YthgllnnlngihoaaGreat.Sx
end
section
set_option linter.unusedVariables false
set_option linter.unusedSimpArgs false
namespace Go.Proofs.YthgllnnlngihoaaGreat.Sx
open Go.RowKit

def F0 : Fence := Fence.wide
theorem in_true : (In fun _ => True) = True := eq_true ⟨trivial⟩
theorem in_self (p : Prop) : (p → In fun _ => p) = True := eq_true fun h => ⟨h⟩
theorem in_self2 (p q : Prop) : (p → (In fun _ => p) ∧ q) = (p → q) := propext ⟨fun h hp => (h hp).2, fun h hp => ⟨⟨hp⟩, h hp⟩⟩
theorem in_and (c r : Bool) : (c = true → In fun _ => r = true → (c && r) = true) = True := eq_true fun h => ⟨fun k => by rw [h, k]; rfl⟩
theorem in_and2 (p q : Prop) : (p → In fun _ => q → p ∧ q) = True := eq_true fun h => ⟨fun k => ⟨h, k⟩⟩
theorem ncast (n : Nat) : @NatCast.natCast Int instNatCastInt n = @Nat.cast Int instNatCastInt n := rfl
theorem noT (b : Bool) : ((!b) = true) = (b = false) := by cases b <;> simp
theorem noF (b : Bool) : ((!b) = false) = (b = true) := by cases b <;> simp
theorem nat_ge (i : Nat) : (0 : Int) ≤ (i : Int) := Int.natCast_nonneg i
theorem nat_fits {i n : Nat} (h : i < n) (hn : n ≤ 140737488355328) : fitsK .i64 ((i + 1 : Nat) : Int) := by unfold fitsK; omega
theorem IX.v_lit (n : Int) : (IX.lit n).val = n := rfl
theorem IX.v_nat (f : Unit → Nat) (k : Nat) : (IX.nat f k).val = ((addN (f ()) k : Nat) : Int) := rfl
theorem IX.v_sy (f : Unit → Int) : (IX.sy f).val = f () := rfl
theorem NX.v_lit (n : Nat) : (NX.lit n).val = n := rfl
theorem NX.v_sy (f : Unit → Nat) (k : Nat) : (NX.sy f k).val = addN (f ()) k := rfl
theorem BX.v_lit (b : Bool) : (BX.lit b).val = b := rfl
theorem BX.v_sy (f : Unit → Bool) : (BX.sy f).val = f () := rfl
def gamL : List (FuncId × Spec) → Gam
  | [] => fun _ => none
  | (f, sp) :: r => fun g => if f = g then some sp else gamL r g
def AllSpecs : List (FuncId × Spec) → Prop
  | [] => True
  | (f, sp) :: r => SpecOk F0 Tryz.prog f sp ∧ AllSpecs r
theorem gamL_ok : ∀ {l : List (FuncId × Spec)}, AllSpecs l → GamOk F0 Tryz.prog (gamL l)
  | [], _, f, sp, h => by cases h
  | (g, s) :: r, hl, f, sp, h => by
    simp only [gamL] at h
    split at h
    · rename_i e; cases h; subst e; exact hl.1
    · exact gamL_ok hl.2 f sp h

theorem mixed_ok : Tryz.prog.follows .mixedOrders = true := by kernel_rfl
noncomputable def en (l : List (FuncId × Spec)) : En := ⟨fun _ => F0, fun _ => Tryz.prog, tab, fun _ => none, gamL l, false, fun _ => false, fun _ => none⟩
theorem en_ok {l : List (FuncId × Spec)} (h : AllSpecs l) : (en l).Ok :=
  { fn := fun _ => trivial, depth := rfl, tab := tab_ok, eq := fun t n h => (by cases h), gam := gamL_ok h, mixed := mixed_ok, pts := fun _ _ h => by cases h }

def fbody (f : Func) : Code := f.body.getD .skip

/-! ### Closed values -/
def closedC : CV → Bool
  | .c _ => true
  | .i _ _ => true
  | .b _ => true
  | .s _ => true
  | _ => false
def closedL : List CV → Bool
  | [] => true
  | c :: r => closedC c && closedL r
def closedT : TV → Bool
  | .one c => closedC c
  | .agg l => closedL l
def closedTL : List TV → Bool
  | [] => true
  | c :: r => closedT c && closedTL r
def closedI : IV → Bool
  | .one c => closedC c
  | .agg l => closedL l
  | .tup l => closedTL l
def closedIL : List IV → Bool
  | [] => true
  | c :: r => closedI c && closedIL r

section
variable {σ σ' : Ren} {τ : Nat → Option Src}
theorem closedC_ok {c : CV} {v : Value} (h : closedC c = true) (hv : CR σ c v) : CR σ' c v := by
  cases c with
  | c u => exact hv
  | i k x => exact hv
  | b x => exact hv
  | s f => exact hv
  | _ => cases h
theorem closedL_ok : ∀ {l : List CV} {vs : List Value}, closedL l = true → All2 (CR σ) l vs → All2 (CR σ') l vs
  | [], [], _, _ => trivial
  | c :: r, v :: vs, h, k => by
    simp only [closedL, Bool.and_eq_true] at h
    exact ⟨closedC_ok h.1 k.1, closedL_ok h.2 k.2⟩
  | [], _ :: _, _, k => k.elim
  | _ :: _, [], _, k => k.elim
theorem closedT_ok {c : TV} {v : Value} (h : closedT c = true) (hv : TR σ c v) : TR σ' c v := by
  cases c with
  | one x => exact closedC_ok h hv
  | agg l => obtain ⟨vs, rfl, ha⟩ := hv; exact ⟨vs, rfl, closedL_ok h ha⟩
theorem closedTL_ok : ∀ {l : List TV} {vs : List Value}, closedTL l = true → All2 (TR σ) l vs → All2 (TR σ') l vs
  | [], [], _, _ => trivial
  | c :: r, v :: vs, h, k => by
    simp only [closedTL, Bool.and_eq_true] at h
    exact ⟨closedT_ok h.1 k.1, closedTL_ok h.2 k.2⟩
  | [], _ :: _, _, k => k.elim
  | _ :: _, [], _, k => k.elim
theorem closedI_ok {c : IV} {v : Value} (h : closedI c = true) (hv : IR σ c v) : IR σ' c v := by
  cases c with
  | one x => exact closedC_ok h hv
  | agg l => obtain ⟨vs, rfl, ha⟩ := hv; exact ⟨vs, rfl, closedL_ok h ha⟩
  | tup l => obtain ⟨vs, rfl, ha⟩ := hv; exact ⟨vs, rfl, closedTL_ok h ha⟩
theorem closedIL_ok : ∀ {l : List IV} {vs : List Value}, closedIL l = true → All2 (IR σ) l vs → All2 (IR σ') l vs
  | [], [], _, _ => trivial
  | c :: r, v :: vs, h, k => by
    simp only [closedIL, Bool.and_eq_true] at h
    exact ⟨closedI_ok h.1 k.1, closedIL_ok h.2 k.2⟩
  | [], _ :: _, _, k => k.elim
  | _ :: _, [], _, k => k.elim

theorem eqIP_refl (x : IX) : eqIP x x := by
  cases x with
  | lit n => simp [eqIP, isT]
  | nat f k => exact ⟨rfl⟩
  | sy f => exact ⟨rfl⟩
theorem eqBP_refl (x : BX) : eqBP x x := by
  cases x with
  | lit b => cases b <;> trivial
  | sy f => exact ⟨rfl⟩
theorem closedC_le {c : CV} (h : closedC c = true) : CvLe τ c c := by
  cases c with
  | c u => rfl
  | i k x => exact ⟨by cases k <;> trivial, eqIP_refl x⟩
  | b x => exact eqBP_refl x
  | s f => exact ⟨rfl⟩
  | _ => cases h
theorem closedL_le : ∀ {l : List CV}, closedL l = true → All2 (CvLe τ) l l
  | [], _ => trivial
  | c :: r, h => by
    simp only [closedL, Bool.and_eq_true] at h
    exact ⟨closedC_le h.1, closedL_le h.2⟩
theorem closedTL_le : ∀ {l : List TV}, closedTL l = true → All2 (TvLe τ) l l
  | [], _ => trivial
  | c :: r, h => by
    simp only [closedTL, Bool.and_eq_true] at h
    refine ⟨?_, closedTL_le h.2⟩
    cases c with
    | one x => exact closedC_le h.1
    | agg l => exact closedL_le h.1
theorem closedI_le {c : IV} (h : closedI c = true) : IvLe τ c c := by
  cases c with
  | one x => exact closedC_le h
  | agg l => exact closedL_le h
  | tup l => exact closedTL_le h
end

/-! ### Values, seen from outside: any number, any truth -/
def genC : CV → CV
  | .i k x => .i k (.sy fun _ => x.val)
  | .b x => .b (.sy fun _ => x.val)
  | c => c
def genCL : List CV → List CV
  | [] => []
  | c :: r => genC c :: genCL r
def genT : TV → TV
  | .one c => .one (genC c)
  | .agg l => .agg (genCL l)
def genTL : List TV → List TV
  | [] => []
  | c :: r => genT c :: genTL r
def genI : IV → IV
  | .one c => .one (genC c)
  | .agg l => .agg (genCL l)
  | .tup l => .tup (genTL l)
def genA : List IV → List IV
  | [] => []
  | c :: r => genI c :: genA r
section
variable {σ : Ren}
theorem genC_ok {c : CV} {v : Value} (h : CR σ c v) : CR σ (genC c) v := by cases c <;> exact h
theorem genCL_ok : ∀ {l : List CV} {vs : List Value}, All2 (CR σ) l vs → All2 (CR σ) (genCL l) vs
  | [], [], _ => trivial
  | _ :: _, _ :: _, h => ⟨genC_ok h.1, genCL_ok h.2⟩
  | [], _ :: _, h => h.elim
  | _ :: _, [], h => h.elim
theorem genT_ok {c : TV} {v : Value} (h : TR σ c v) : TR σ (genT c) v := by
  cases c with
  | one x => exact genC_ok h
  | agg l => obtain ⟨vs, rfl, ha⟩ := h; exact ⟨vs, rfl, genCL_ok ha⟩
theorem genTL_ok : ∀ {l : List TV} {vs : List Value}, All2 (TR σ) l vs → All2 (TR σ) (genTL l) vs
  | [], [], _ => trivial
  | _ :: _, _ :: _, h => ⟨genT_ok h.1, genTL_ok h.2⟩
  | [], _ :: _, h => h.elim
  | _ :: _, [], h => h.elim
theorem genI_ok {c : IV} {v : Value} (h : IR σ c v) : IR σ (genI c) v := by
  cases c with
  | one x => exact genC_ok h
  | agg l => obtain ⟨vs, rfl, ha⟩ := h; exact ⟨vs, rfl, genCL_ok ha⟩
  | tup l => obtain ⟨vs, rfl, ha⟩ := h; exact ⟨vs, rfl, genTL_ok ha⟩
theorem genA_ok : ∀ {l : List IV} {vs : List Value}, All2 (IR σ) l vs → All2 (IR σ) (genA l) vs
  | [], [], _ => trivial
  | _ :: _, _ :: _, h => ⟨genI_ok h.1, genA_ok h.2⟩
  | [], _ :: _, h => h.elim
  | _ :: _, [], h => h.elim
theorem genA_len : ∀ (l : List IV), (genA l).length = l.length
  | [] => rfl
  | _ :: r => congrArg Nat.succ (genA_len r)
end

/-- A function of values alone. -/
theorem spec_pure {e : En} (he : e.Ok) (hro : (e.F ()).round = none) {f : FuncId} {fn : Func} {c : Code} (hf : (e.P ()).funcs[f]? = some fn) (hb : fn.body = some c) (hname : (fn.name == "runtime.NumGoroutine") = false) (hck : codeOk fn.ntmps c = true) {sp : Spec} (hcg : ∀ args M M' base, sp args M' base = sp args M base)
    (h : ∀ args M base, (sp args M base).side → args.length ≤ fn.ntmps ∧ closedIL args = true ∧ closedI (sp args M base).r = true ∧ (sp args M base).news = [] ∧ (sp args M base).upd = [] ∧
      ∀ B, vc e ⟨fun _ => none, B, fun _ => False, fn.ntmps, none⟩ c (start (genA args) []) fun x st => isRet x ∧ (resultI e.T fn.results.toList st.S.get (lget st.M)).1 ∧ IvLe (fun _ => none) (resultI e.T fn.results.toList st.S.get (lget st.M)).2 (sp args M base).r) : SpecOk (e.F ()) (e.P ()) f sp := by
  refine spec_ok he hro hf hb hname hck (fun args M M' base _ _ => hcg args M M' base) fun args M base hs => ?_
  obtain ⟨h1, h2, h3, h4, h5, h6⟩ := h args M base hs
  refine ⟨fun _ => (sp args M base).r, fun _ => [], fun B O σ w vals hS ha => ⟨genA args, [], [], by rw [genA_len]; exact h1, fun ob hob => (by cases hob), trivial, genA_ok (closedIL_ok h2 ha), fun B => vc_mono he (h6 B) fun x st hx => ⟨hx.1, hx.2.1, [], trivial, trivial, trivial, hx.2.2⟩⟩, rfl, h4, h5, closedI_le h3, trivial, fun ob hob => by cases hob⟩
end Go.Proofs.YthgllnnlngihoaaGreat.Sx
end
