/- The ideal memory of the Sx framework, how it lies in a world, and what steps of the world keep it; What one operation of the program's text does to ideal memory; Each operation does in a world what evOp says of ideal memory: those that make no call; .. stores, appends, what is made; .. appends and rows that are made. -/
import Derived.WalkKit
import Derived.Below
import Derived.OwnWalk
import Derived.CallsIn
import Derived.OrdersIn
import Derived.Laws.AppendOwn
import Derived.Lib.ConvBytes
section
set_option linter.unusedVariables false
set_option linter.unusedSimpArgs false
namespace Go.Proofs.YthgllnnlngihoaaGreat.Sx
open Go.RowKit



/-! ### What is symbolic lies behind lambdas: the tactic cbv does not enter these -/
structure In (p : Unit → Prop) : Prop where
  ok : p ()
def addN (a : Nat) : Nat → Nat
  | 0 => a
  | k + 1 => (addN a k).succ
theorem addN_eq (a : Nat) : ∀ k, addN a k = a + k
  | 0 => rfl
  | k + 1 => congrArg Nat.succ (addN_eq a k)
/-- A natural number; an integer; a truth. -/
inductive NX where
  | lit (n : Nat)
  | sy (f : Unit → Nat) (k : Nat)
inductive IX where
  | lit (n : Int)
  | nat (f : Unit → Nat) (k : Nat)
  | sy (f : Unit → Int)
inductive BX where
  | lit (b : Bool)
  | sy (f : Unit → Bool)
instance : Inhabited NX := ⟨.lit 0⟩
instance : Inhabited IX := ⟨.lit 0⟩
instance : Inhabited BX := ⟨.lit false⟩
def NX.val : NX → Nat
  | .lit n => n
  | .sy f k => addN (f ()) k
def IX.val : IX → Int
  | .lit n => n
  | .nat f k => ((addN (f ()) k : Nat) : Int)
  | .sy f => f ()
def BX.val : BX → Bool
  | .lit b => b
  | .sy f => f ()

/-- One cell's value: a value; an object's own value; the address of a cell of an object; a part of a slice; a slice cut to a head; anything. -/
inductive CV where
  | c (v : Value)
  | i (k : IntKind) (x : IX)
  | b (x : BX)
  | s (f : Unit → ByteArray)
  | ref (i : Nat)
  | ptr (i : Nat) (e : NX) (j k : Nat)
  | sub (i : Nat) (s n : NX) (k : Nat)
  | cut (i : Nat) (n : NX)
  | top
  deriving Inhabited

inductive TV where
  | one (x : CV)
  | agg (l : List CV)
  deriving Inhabited

inductive IV where
  | one (x : CV)
  | agg (l : List CV)
  | tup (l : List TV)
  deriving Inhabited

def TV.iv : TV → IV
  | .one x => .one x
  | .agg l => .agg l

/-- A row is read alone; is one's own; is one's own behind a conversion of a string (written, not appended to). -/
inductive Md where
  | ro | own | mk
  deriving DecidableEq

/-- Objects: rows of elements (k cells each), variables, function values, what is used up. -/
inductive Ob where
  | row (md : Md) (t : TypeId) (k : Nat) (len : NX) (get : Nat → List CV)
  | box (own : Bool) (t : TypeId) (cs : List CV)
  | clo (fn : Fn) (first cap : List CV)
  | dead
  | obj (o : Obj)

def Ob.own : Ob → Bool
  | .row .ro _ _ _ _ => false
  | .row _ _ _ _ _ => true
  | .box o _ _ => o
  | .obj _ => true
  | _ => false

/-- It holds cells that others' writes may not hit. -/
def Ob.occ : Ob → Prop
  | .row .ro _ _ len _ => 0 < len.val
  | .row _ _ _ _ _ => True
  | .box true _ _ => True
  | .box false _ cs => 0 < cs.length
  | .obj _ => True
  | _ => False

def All2 {α β : Type} (R : α → β → Prop) : List α → List β → Prop
  | [], [] => True
  | a :: l, b :: m => R a b ∧ All2 R l m
  | _, _ => False

theorem All2.mono {α β : Type} {R R' : α → β → Prop} (h : ∀ a b, R a b → R' a b) : ∀ {l : List α} {m : List β}, All2 R l m → All2 R' l m
  | [], [], _ => trivial
  | _ :: _, _ :: _, k => ⟨h _ _ k.1, All2.mono h k.2⟩
  | [], _ :: _, k => k.elim
  | _ :: _, [], k => k.elim
theorem All2.length {α β : Type} {R : α → β → Prop} : ∀ {l : List α} {m : List β}, All2 R l m → l.length = m.length
  | [], [], _ => rfl
  | _ :: _, _ :: _, k => by simp [All2.length k.2]
  | [], _ :: _, k => k.elim
  | _ :: _, [], k => k.elim
theorem All2.get {α β : Type} {R : α → β → Prop} : ∀ {l : List α} {m : List β}, All2 R l m → ∀ (j : Nat) a, l[j]? = some a → ∃ b, m[j]? = some b ∧ R a b
  | [], [], _ => fun j a h => by simp at h
  | x :: _, y :: _, k => fun j a h => by
    cases j with
    | zero => simp at h; subst h; exact ⟨y, rfl, k.1⟩
    | succ j => exact All2.get k.2 j a (by simpa using h)
  | [], _ :: _, k => k.elim
  | _ :: _, [], k => k.elim
theorem All2.mk {α β : Type} {R : α → β → Prop} : ∀ {l : List α} {m : List β}, l.length = m.length → (∀ (j : Nat) a b, l[j]? = some a → m[j]? = some b → R a b) → All2 R l m
  | [], [], _, _ => trivial
  | x :: l, y :: m, h, k => ⟨k 0 x y rfl rfl, All2.mk (by simpa using h) fun j a b ha hb => k (j + 1) a b (by simpa using ha) (by simpa using hb)⟩
  | [], _ :: _, h, _ => by simp at h
  | _ :: _, [], h, _ => by simp at h
theorem All2.append {α β : Type} {R : α → β → Prop} : ∀ {l : List α} {m : List β} {l' : List α} {m' : List β}, All2 R l m → All2 R l' m' → All2 R (l ++ l') (m ++ m')
  | [], [], _, _, _, k => k
  | _ :: _, _ :: _, _, _, h, k => ⟨h.1, All2.append h.2 k⟩
  | [], _ :: _, _, _, h, _ => h.elim
  | _ :: _, [], _, _, h, _ => h.elim

def addrOf : Value → Option Addr
  | .pointer a => a
  | .slice a _ _ => a
  | _ => none
def blkOf (v : Value) : Option Nat := (addrOf v).map (·.block)

abbrev Ren := Nat → Option Value

def CRel (σ : Ren) : CV → Value → Prop
  | .c u, v => v = u
  | .ref i, v => σ i = some v
  | .i k x, v => v = .int k x.val
  | .b x, v => v = .bool x.val
  | .s f, v => v = .string (f ())
  | .ptr i e j k, v => ∃ hv b o, σ i = some hv ∧ addrOf hv = some ⟨b, o, none⟩ ∧ v = .pointer (some ⟨b, o + (e.val * k + j), none⟩)
  | .sub i s n k, v => ∃ hv A c, σ i = some hv ∧ v = .slice A n.val c ∧ n.val ≤ c ∧ c ≤ maxLen ∧ (0 < n.val → ∃ b o, addrOf hv = some ⟨b, o, none⟩ ∧ A = some ⟨b, o + s.val * k, none⟩)
  | .cut i n, v => ∃ a L c, σ i = some (.slice a L c) ∧ v = .slice a n.val c ∧ n.val ≤ L
  | .top, _ => True
/-- .. and it is one cell's. -/
def CR (σ : Ren) (c : CV) (v : Value) : Prop := v.oneCell' = true ∧ CRel σ c v

def TR (σ : Ren) : TV → Value → Prop
  | .one x, v => CR σ x v
  | .agg l, v => ∃ vs : List Value, v = .agg vs.toArray ∧ All2 (CR σ) l vs
def IR (σ : Ren) : IV → Value → Prop
  | .one x, v => CR σ x v
  | .agg l, v => ∃ vs : List Value, v = .agg vs.toArray ∧ All2 (CR σ) l vs
  | .tup l, v => ∃ vs : List Value, v = .tuple vs.toArray ∧ All2 (TR σ) l vs

/-- More is named; what was named stays. -/
def Ren.le (σ σ' : Ren) : Prop := ∀ i v, σ i = some v → σ' i = some v
theorem Ren.le.refl (σ : Ren) : Ren.le σ σ := fun _ _ h => h
theorem Ren.le.trans {a b c : Ren} (h : Ren.le a b) (k : Ren.le b c) : Ren.le a c := fun i v hv => k i v (h i v hv)

theorem CRel.le {σ σ' : Ren} (h : Ren.le σ σ') {c : CV} {v : Value} (hc : CRel σ c v) : CRel σ' c v := by
  cases c with
  | c u => exact hc
  | i k x => exact hc
  | b x => exact hc
  | s f => exact hc
  | ref i => exact h _ _ hc
  | ptr i e j k => obtain ⟨hv, b, o, h1, h2⟩ := hc; exact ⟨hv, b, o, h _ _ h1, h2⟩
  | sub i s n k => obtain ⟨hv, A, c, h1, h2⟩ := hc; exact ⟨hv, A, c, h _ _ h1, h2⟩
  | cut i n => obtain ⟨a, L, c, h1, h2⟩ := hc; exact ⟨a, L, c, h _ _ h1, h2⟩
  | top => trivial
theorem CR.le {σ σ' : Ren} (h : Ren.le σ σ') {c : CV} {v : Value} (hc : CR σ c v) : CR σ' c v := ⟨hc.1, hc.2.le h⟩
theorem TR.le {σ σ' : Ren} (h : Ren.le σ σ') {c : TV} {v : Value} (hc : TR σ c v) : TR σ' c v := by
  cases c with
  | one x => exact CR.le h hc
  | agg l => obtain ⟨vs, rfl, ha⟩ := hc; exact ⟨vs, rfl, ha.mono fun _ _ => CR.le h⟩
theorem IR.le {σ σ' : Ren} (h : Ren.le σ σ') {c : IV} {v : Value} (hc : IR σ c v) : IR σ' c v := by
  cases c with
  | one x => exact CR.le h hc
  | agg l => obtain ⟨vs, rfl, ha⟩ := hc; exact ⟨vs, rfl, ha.mono fun _ _ => CR.le h⟩
  | tup l => obtain ⟨vs, rfl, ha⟩ := hc; exact ⟨vs, rfl, ha.mono fun _ _ => TR.le h⟩

/-- The cells of elements, read by rd from 0 on. -/
def RowAt (σ : Ren) (rd : Nat → Option Value) (k len : Nat) (get : Nat → List CV) : Prop :=
  ∀ e, e < len → (get e).length = k ∧ ∀ j c, (get e)[j]? = some c → ∃ v, rd (e * k + j) = some v ∧ CR σ c v
theorem RowAt.le {σ σ' : Ren} (h : Ren.le σ σ') {rd : Nat → Option Value} {k len : Nat} {get : Nat → List CV} (hr : RowAt σ rd k len get) : RowAt σ' rd k len get :=
  fun e he => ⟨(hr e he).1, fun j c hc => let ⟨v, h1, h2⟩ := (hr e he).2 j c hc; ⟨v, h1, h2.le h⟩⟩

def RowRel (σ : Ren) (w : World) : Md → TypeId → Nat → Nat → (Nat → List CV) → Value → Prop
  | .own, t, k, len, get, hv => 0 < k ∧ ((hv = .slice none 0 0 ∧ len = 0) ∨ ∃ g cap cur, hv = .slice (some ⟨g, 0, none⟩) len cap ∧ w.heap[g]? = some (.cells cur t (0, 0)) ∧ len ≤ cap ∧ cap ≤ maxLen ∧ cur.size = cap * k ∧ RowAt σ (fun n => cur[n]?) k len get)
  | .mk, t, k, len, get, hv => 0 < k ∧ ∃ g cap cur fr, hv = .slice (some ⟨g, 0, none⟩) len cap ∧ w.heap[g]? = some (.cells cur t fr) ∧ cur.size ≤ fr.1 ∧ len ≤ cap ∧ cap ≤ maxLen ∧ cur.size = cap * k ∧ RowAt σ (fun n => cur[n]?) k len get
  | .ro, _, k, len, get, hv => ∃ A c, hv = .slice A len c ∧ len ≤ c ∧ c ≤ maxLen ∧ 0 < k ∧ (0 < len → ∃ b o, A = some ⟨b, o, none⟩ ∧ RowAt σ (fun n => w.cell? ⟨b, o + n, none⟩) k len get)
def ObRel (σ : Ren) (w : World) : Ob → Value → Prop
  | .row md t k len get, hv => RowRel σ w md t k len.val get hv
  | .box true t cs, hv => ∃ g vs, hv = .pointer (some ⟨g, 0, none⟩) ∧ w.heap[g]? = some (.cells vs t (0, 0)) ∧ All2 (CR σ) cs vs.toList
  | .box false _ cs, hv => ∃ b o, hv = .pointer (some ⟨b, o, none⟩) ∧ ∀ j c, cs[j]? = some c → ∃ v, w.cell? ⟨b, o + j, none⟩ = some v ∧ CR σ c v
  | .clo fn first cap, hv => ∃ f c : List Value, hv = .func fn f.toArray c.toArray ∧ All2 (CR σ) first f ∧ All2 (CR σ) cap c
  | .dead, _ => True
  | .obj o, hv => ∃ g, hv = .pointer (some ⟨g, 0, none⟩) ∧ w.heap[g]? = some o

theorem ObRel.le {σ σ' : Ren} (h : Ren.le σ σ') {w : World} {ob : Ob} {hv : Value} (ho : ObRel σ w ob hv) : ObRel σ' w ob hv := by
  cases ob with
  | row md t k len get =>
    cases md with
    | own =>
      obtain ⟨h1, h2 | ⟨g, cap, cur, a, b, c, d, e, hr⟩⟩ := ho
      · exact ⟨h1, .inl h2⟩
      · exact ⟨h1, .inr ⟨g, cap, cur, a, b, c, d, e, hr.le h⟩⟩
    | mk => obtain ⟨h1, g, cap, cur, fr, a, b, b', c, d, e, hr⟩ := ho; exact ⟨h1, g, cap, cur, fr, a, b, b', c, d, e, hr.le h⟩
    | ro => obtain ⟨A, c, h1, h2, h3, h4, h5⟩ := ho; exact ⟨A, c, h1, h2, h3, h4, fun hl => let ⟨b, o, e, hr⟩ := h5 hl; ⟨b, o, e, hr.le h⟩⟩
  | box bo t cs =>
    cases bo with
    | true => obtain ⟨g, vs, h1, h2, h3⟩ := ho; exact ⟨g, vs, h1, h2, h3.mono fun _ _ => CR.le h⟩
    | false => obtain ⟨b, o, h1, h2⟩ := ho; exact ⟨b, o, h1, fun j c hc => let ⟨v, a, b⟩ := h2 j c hc; ⟨v, a, b.le h⟩⟩
  | clo fn first cap => obtain ⟨f, c, h1, h2, h3⟩ := ho; exact ⟨f, c, h1, h2.mono fun _ _ => CR.le h, h3.mono fun _ _ => CR.le h⟩
  | dead => trivial
  | obj o => exact ho

/-- The block of what an object holds is one of the world's. -/
theorem ObRel.lt {σ : Ren} {w : World} {ob : Ob} {hv : Value} (ho : ObRel σ w ob hv) (hocc : ob.occ) {b : Nat} (hb : blkOf hv = some b) : b < w.heap.size := by
  cases ob with
  | row md t k len get =>
    cases md with
    | own =>
      obtain ⟨_, h1 | ⟨g, cap, cur, rfl, hg, _⟩⟩ := ho
      · obtain ⟨rfl, _⟩ := h1; simp [blkOf, addrOf] at hb
      · simp [blkOf, addrOf] at hb; subst hb; exact (Array.getElem?_eq_some_iff.1 hg).1
    | mk => obtain ⟨_, g, cap, cur, fr, rfl, hg, _⟩ := ho; simp [blkOf, addrOf] at hb; subst hb; exact (Array.getElem?_eq_some_iff.1 hg).1
    | ro =>
      obtain ⟨A, c, rfl, _, _, hk, h5⟩ := ho
      obtain ⟨b', o, rfl, hr⟩ := h5 hocc
      simp [blkOf, addrOf] at hb
      subst hb
      obtain ⟨hl, hc⟩ := hr 0 hocc
      have : ∃ c, (get 0)[0]? = some c := ⟨(get 0)[0]'(by omega), by simp [show 0 < (get 0).length by omega]⟩
      obtain ⟨c0, hc0⟩ := this
      obtain ⟨v, hv, _⟩ := hc 0 c0 hc0
      exact World.block_lt_of_cell? w _ hv
  | box bo t cs =>
    cases bo with
    | true => obtain ⟨g, vs, rfl, h2, _⟩ := ho; simp [blkOf, addrOf] at hb; subst hb; exact (Array.getElem?_eq_some_iff.1 h2).1
    | false =>
      obtain ⟨b', o, rfl, h2⟩ := ho
      simp [blkOf, addrOf] at hb
      subst hb
      have hl : 0 < cs.length := hocc
      obtain ⟨v, hv, _⟩ := h2 0 (cs[0]) (by simp [hl])
      exact World.block_lt_of_cell? w _ hv
  | clo fn first cap => exact hocc.elim
  | dead => exact hocc.elim
  | obj o => obtain ⟨g, rfl, h2⟩ := ho; simp [blkOf, addrOf] at hb; subst hb; exact (Array.getElem?_eq_some_iff.1 h2).1

/-- What an object holds stands where its block is as it was. -/
theorem ObRel.keep {σ : Ren} {w w' : World} {ob : Ob} {hv : Value} (ho : ObRel σ w ob hv) (h : ob.occ → ∀ b, blkOf hv = some b → w'.heap[b]? = w.heap[b]?) : ObRel σ w' ob hv := by
  cases ob with
  | row md t k len get =>
    cases md with
    | own =>
      obtain ⟨h0, h1 | ⟨g, cap, cur, rfl, hg, rest⟩⟩ := ho
      · exact ⟨h0, .inl h1⟩
      · exact ⟨h0, .inr ⟨g, cap, cur, rfl, (h trivial g rfl).trans hg, rest⟩⟩
    | mk => obtain ⟨h0, g, cap, cur, fr, rfl, hg, rest⟩ := ho; exact ⟨h0, g, cap, cur, fr, rfl, (h trivial g rfl).trans hg, rest⟩
    | ro =>
      obtain ⟨A, c, rfl, h2, h3, h4, h5⟩ := ho
      refine ⟨A, c, rfl, h2, h3, h4, fun hl => ?_⟩
      obtain ⟨b, o, rfl, hr⟩ := h5 hl
      refine ⟨b, o, rfl, fun e he => ⟨(hr e he).1, fun j c hc => ?_⟩⟩
      obtain ⟨v, a1, a2⟩ := (hr e he).2 j c hc
      exact ⟨v, (World.cell?_of_block (h hl b rfl)).trans a1, a2⟩
  | box bo t cs =>
    cases bo with
    | true => obtain ⟨g, vs, rfl, h2, h3⟩ := ho; exact ⟨g, vs, rfl, (h trivial g rfl).trans h2, h3⟩
    | false =>
      obtain ⟨b, o, rfl, h2⟩ := ho
      refine ⟨b, o, rfl, fun j c hc => ?_⟩
      obtain ⟨v, a1, a2⟩ := h2 j c hc
      have hl : 0 < cs.length := by
        rcases Nat.lt_or_ge j cs.length with hj | hj
        · omega
        · simp [List.getElem?_eq_none hj] at hc
      exact ⟨v, (World.cell?_of_block (h hl b rfl)).trans a1, a2⟩
  | clo fn first cap => exact ho
  | dead => trivial
  | obj o => obtain ⟨g, rfl, h2⟩ := ho; exact ⟨g, rfl, (h trivial g rfl).trans h2⟩

/-- How ideal memory lies in a world: B: the heap's size when the call began; O: blocks of before that the call may write. -/
structure Sim (B : Nat) (O : Nat → Prop) (σ : Ren) (M : Nat → Option Ob) (w : World) : Prop where
  ob : ∀ i hv, σ i = some hv → ∃ ob, M i = some ob ∧ ObRel σ w ob hv
  sep : ∀ i j hi hj oi oj b, i ≠ j → σ i = some hi → σ j = some hj → M i = some oi → M j = some oj → oi.own = true → oj.occ → blkOf hi = some b → blkOf hj ≠ some b
  own : ∀ i hi oi b, σ i = some hi → M i = some oi → oi.own = true → blkOf hi = some b → B ≤ b ∨ O b
  size : B ≤ w.heap.size

/-- What was there before the call is as it was. -/
structure Keep (B : Nat) (O : Nat → Prop) (w w' : World) : Prop where
  os : w'.os = w.os
  tape : w'.tape = w.tape
  output : w'.output = w.output
  size : w.heap.size ≤ w'.heap.size
  block : ∀ b, b < B → ¬ O b → w'.heap[b]? = w.heap[b]?
theorem Keep.refl (B : Nat) (O : Nat → Prop) (w : World) : Keep B O w w := ⟨rfl, rfl, rfl, Nat.le_refl _, fun _ _ _ => rfl⟩
theorem Keep.trans {B : Nat} {O : Nat → Prop} {a b c : World} (h : Keep B O a b) (k : Keep B O b c) : Keep B O a c :=
  ⟨k.os.trans h.os, k.tape.trans h.tape, k.output.trans h.output, Nat.le_trans h.size k.size, fun i hi ho => (k.block i hi ho).trans (h.block i hi ho)⟩
theorem Keep.of_below {B : Nat} {O : Nat → Prop} {w w' : World} (h : Below w.heap.size w w') (hB : B ≤ w.heap.size) : Keep B O w w' :=
  ⟨h.os, h.tape, h.output, h.size, fun b hb _ => h.block b (by omega)⟩
theorem Keep.below {B : Nat} {w w' : World} (h : Keep B (fun _ => False) w w') : Below B w w' := ⟨h.os, h.tape, h.output, h.size, fun b hb => h.block b hb (by simp)⟩

def Ren.set (σ : Ren) (i : Nat) (v : Value) : Ren := fun j => if j = i then some v else σ j
theorem Ren.set_same (σ : Ren) (i : Nat) (v : Value) : σ.set i v i = some v := by simp [Ren.set]
theorem Ren.set_other (σ : Ren) {i j : Nat} (v : Value) (h : j ≠ i) : σ.set i v j = σ j := by simp [Ren.set, h]
theorem Ren.le_set {σ : Ren} {i : Nat} (v : Value) (h : σ i = none) : Ren.le σ (σ.set i v) := fun j u hu => by
  have : j ≠ i := fun e => by rw [e, h] at hu; cases hu
  rw [Ren.set_other _ _ this]; exact hu

/-- A step that turns nothing that was there. -/
theorem Sim.below {B : Nat} {O : Nat → Prop} {σ : Ren} {M : Nat → Option Ob} {w w' : World} (h : Sim B O σ M w) (hb : Below w.heap.size w w') : Sim B O σ M w' :=
  ⟨fun i hv hi => let ⟨ob, h1, h2⟩ := h.ob i hv hi; ⟨ob, h1, h2.keep fun hocc b hbb => hb.block b (h2.lt hocc hbb)⟩, h.sep, h.own, Nat.le_trans h.size hb.size⟩
/-- Only the draws' count has turned. -/
theorem Sim.drew {B : Nat} {O : Nat → Prop} {σ : Ren} {M : Nat → Option Ob} {w : World} (h : Sim B O σ M w) : Sim B O σ M w.drew :=
  h.below ((Below.refl _ w).drew)

theorem Ob.occ_of_own {ob : Ob} (h : ob.own = true) : ob.occ := by
  cases ob with
  | row md t k len get => cases md <;> simp_all [Ob.own, Ob.occ]
  | box bo t cs => cases bo <;> simp_all [Ob.own, Ob.occ]
  | clo _ _ _ => simp [Ob.own] at h
  | dead => simp [Ob.own] at h
  | obj _ => trivial

/-- A new object. -/
theorem Sim.add {B : Nat} {O : Nat → Prop} {σ : Ren} {M : Nat → Option Ob} {w w' : World} (h : Sim B O σ M w) (hb : Below w.heap.size w w') {i : Nat} {ob : Ob} {hv : Value}
    (hM : M i = some ob) (hn : σ i = none) (hr : ObRel (σ.set i hv) w' ob hv) (hf : ob.occ → ∀ b, blkOf hv = some b → w.heap.size ≤ b) (hown : ob.own = true → ob.occ) : Sim B O (σ.set i hv) M w' := by
  have h' := h.below hb
  have hle := Ren.le_set hv hn
  refine ⟨fun j u hj => ?_, fun j l hj hl oj ol b hne sj sl mj ml ho hocc bj bl => ?_, fun j u oj b sj mj ho bj => ?_, h'.size⟩
  · by_cases e : j = i
    · subst e
      rw [Ren.set_same] at hj
      cases hj
      exact ⟨ob, hM, hr⟩
    · rw [Ren.set_other _ _ e] at hj
      obtain ⟨o, h1, h2⟩ := h'.ob j u hj
      exact ⟨o, h1, h2.le hle⟩
  · by_cases ej : j = i
    · subst ej
      have el : l ≠ j := fun e => hne e.symm
      rw [Ren.set_same] at sj
      rw [Ren.set_other _ _ el] at sl
      cases sj
      rw [hM] at mj
      cases mj
      obtain ⟨o, h1, h2⟩ := h.ob l hl sl
      rw [ml] at h1
      cases h1
      have := h2.lt hocc bl
      have := hf (hown ho) b bj
      omega
    · rw [Ren.set_other _ _ ej] at sj
      by_cases el : l = i
      · subst el
        rw [Ren.set_same] at sl
        cases sl
        rw [hM] at ml
        cases ml
        obtain ⟨o, h1, h2⟩ := h.ob j hj sj
        rw [mj] at h1
        cases h1
        have hoo : oj.occ := Ob.occ_of_own ho
        have := h2.lt hoo bj
        have := hf hocc b bl
        omega
      · rw [Ren.set_other _ _ el] at sl
        exact h.sep j l hj hl oj ol b hne sj sl mj ml ho hocc bj bl
  · by_cases e : j = i
    · subst e
      rw [Ren.set_same] at sj
      cases sj
      rw [hM] at mj
      cases mj
      exact .inl (Nat.le_trans h.size (hf (hown ho) b bj))
    · rw [Ren.set_other _ _ e] at sj
      exact h.own j u oj b sj mj ho bj


def updM (M : Nat → Option Ob) (i : Nat) (ob : Ob) : Nat → Option Ob := fun j => if j = i then some ob else M j
theorem updM_same (M : Nat → Option Ob) (i : Nat) (ob : Ob) : updM M i ob i = some ob := by simp [updM]
theorem updM_other (M : Nat → Option Ob) {i j : Nat} (ob : Ob) (h : j ≠ i) : updM M i ob j = M j := by simp [updM, h]

/-- One object of one's own is written. -/
theorem Sim.write {B : Nat} {O : Nat → Prop} {σ : Ren} {M : Nat → Option Ob} {w w' : World} (h : Sim B O σ M w) {i : Nat} {ob ob' : Ob} {hv : Value} {b : Nat} (hs : σ i = some hv) (hM : M i = some ob) (ho : ob.own = true) (hb : blkOf hv = some b)
    (hk : ∀ k, k ≠ b → w'.heap[k]? = w.heap[k]?) (hsz : w.heap.size ≤ w'.heap.size) (hr : ObRel σ w' ob' hv) : Sim B O σ (updM M i ob') w' := by
  have hocc := Ob.occ_of_own ho
  refine ⟨fun j u hj => ?_, fun j l hj hl oj ol b' hne sj sl mj ml ho' hocc' bj bl => ?_, fun j u oj b' sj mj ho' bj => ?_, Nat.le_trans h.size hsz⟩
  · by_cases e : j = i
    · subst e
      rw [hs] at hj
      cases hj
      exact ⟨ob', updM_same _ _ _, hr⟩
    · obtain ⟨o, h1, h2⟩ := h.ob j u hj
      refine ⟨o, by rw [updM_other _ _ e]; exact h1, h2.keep fun hocc' b' hb' => hk b' fun e' => ?_⟩
      subst e'
      exact h.sep i j hv u ob o b' (fun e' => e e'.symm) hs hj hM h1 ho hocc' hb hb'
  · by_cases ej : j = i
    · subst ej
      have el : l ≠ j := fun e => hne e.symm
      rw [updM_other _ _ el] at ml
      rw [hs] at sj
      cases sj
      exact h.sep j l hv hl ob ol b' hne hs sl hM ml ho hocc' bj bl
    · rw [updM_other _ _ ej] at mj
      by_cases el : l = i
      · subst el
        rw [hs] at sl
        cases sl
        exact h.sep j l hj hv oj ob b' hne sj hs mj hM ho' hocc bj bl
      · rw [updM_other _ _ el] at ml
        exact h.sep j l hj hl oj ol b' hne sj sl mj ml ho' hocc' bj bl
  · by_cases e : j = i
    · subst e
      rw [hs] at sj
      cases sj
      exact h.own j hv ob b' hs hM ho bj
    · rw [updM_other _ _ e] at mj
      exact h.own j u oj b' sj mj ho' bj

theorem Keep.of_write {B : Nat} {O : Nat → Prop} {w w' : World} {b : Nat} (hb : B ≤ b ∨ O b) (hk : ∀ k, k ≠ b → w'.heap[k]? = w.heap[k]?) (hos : w'.os = w.os) (ht : w'.tape = w.tape) (ho : w'.output = w.output) (hsz : w.heap.size ≤ w'.heap.size) : Keep B O w w' :=
  ⟨hos, ht, ho, hsz, fun i hi hn => hk i fun e => by subst e; exact hb.elim (fun h => by omega) hn⟩

end Go.Proofs.YthgllnnlngihoaaGreat.Sx
end
section
set_option linter.unusedVariables false
set_option linter.unusedSimpArgs false
namespace Go.Proofs.YthgllnnlngihoaaGreat.Sx
open Go.RowKit

/-- A type, as far as operations look into it. -/
inductive TK where
  | int (k : IntKind)
  | bool
  | str
  | slice (e : TypeId)
  | struct (fs : List (Nat × TypeId))
  | array (n : Nat) (e : TypeId)
  | ptr (e : TypeId)
  | map (k e : TypeId)
  | func
  | other
  deriving DecidableEq

def TK.of : TypeDesc → TK
  | .int k => .int k
  | .bool => .bool
  | .string => .str
  | .slice e => .slice e
  | .struct fs => .struct (fs.toList.map fun f => (f.offset, f.type))
  | .array n e => .array n e
  | .pointer e => .ptr e
  | .map k e => .map k e
  | .func _ _ _ => .func
  | _ => .other

structure TI where
  size : Nat
  bytes : Nat
  zero : List Value
  kind : TK

def TI.isAgg (ti : TI) : Bool := match ti.kind with
  | .struct _ => true
  | .array _ _ => true
  | _ => false
def TI.zeroV (ti : TI) : Value := if ti.isAgg then .agg ti.zero.toArray else ti.zero.headD .nilIface

/-- A type's row of the table is so. -/
structure EntryOk (P : Program) (t : TypeId) (ti : TI) : Prop where
  info : (P.info? t).map (fun i => (i.size, i.bytes, i.zero)) = some (ti.size, ti.bytes, some ti.zeroV)
  und : (P.underlying t).map TK.of = some ti.kind
  zsize : ti.zero.length = ti.size
  zone : ti.zero.all (·.oneCell') = true
  one : ti.isAgg = false → ti.size = 1

abbrev Tab := TypeId → Option TI
def TabOk (P : Program) (T : Tab) : Prop := ∀ t ti, T t = some ti → EntryOk P t ti

abbrev Mem := Nat → Option Ob

/-- What an operation asks, gives, makes, writes; which objects it looks at. -/
structure Out where
  side : Prop
  r : IV
  news : List Ob
  upd : List (Nat × Ob)
  reads : List Nat

def bad : Out := ⟨False, .one .top, [], [], []⟩
def gives (side : Prop) (r : IV) : Out := ⟨side, r, [], [], []⟩
def makes (side : Prop) (r : IV) (o : Ob) : Out := ⟨side, r, [o], [], []⟩

/-! ### Computing with what may be symbolic -/
def isT : Bool → Prop
  | true => True
  | false => False
theorem isT_iff {b : Bool} : isT b ↔ b = true := by cases b <;> simp [isT]
def eqK : IntKind → IntKind → Bool
  | .i8, .i8 => true
  | .i16, .i16 => true
  | .i32, .i32 => true
  | .i64, .i64 => true
  | .u8, .u8 => true
  | .u16, .u16 => true
  | .u32, .u32 => true
  | .u64, .u64 => true
  | _, _ => false
theorem eqK_iff {a b : IntKind} (h : eqK a b = true) : a = b := by cases a <;> cases b <;> first | rfl | cases h
/-- Natural numbers: the comparison of two, as what must be shown. -/
def leN : NX → NX → Prop
  | .lit a, .lit b => isT (Nat.ble a b)
  | a, b => In fun _ => a.val ≤ b.val
theorem leN_iff {a b : NX} (h : leN a b) : a.val ≤ b.val := by
  cases a <;> cases b <;> first | exact h.ok | exact Nat.le_of_ble_eq_true (isT_iff.1 h)
def ltN (a b : NX) : Prop := leN (match a with
  | .lit n => .lit (n + 1)
  | .sy f k => .sy f (k + 1)) b
theorem ltN_iff {a b : NX} (h : ltN a b) : a.val < b.val := by
  have := leN_iff h
  cases a with
  | lit n => exact this
  | sy f k => exact this
def eqN : NX → NX → Prop
  | .lit a, .lit b => isT (Nat.beq a b)
  | a, b => In fun _ => a.val = b.val
theorem eqN_iff {a b : NX} (h : eqN a b) : a.val = b.val := by
  cases a <;> cases b <;> first | exact h.ok | exact Nat.eq_of_beq_eq_true (isT_iff.1 h)
def NX.add : NX → NX → NX
  | .lit a, .lit b => .lit (a + b)
  | .sy f k, .lit b => .sy f (k + b)
  | .lit a, .sy f k => .sy f (a + k)
  | .sy f k, .sy g m => .sy (fun _ => f () + g ()) (k + m)
theorem NX.add_val (a b : NX) : (a.add b).val = a.val + b.val := by
  cases a <;> cases b <;> simp only [NX.add, NX.val, addN_eq] <;> omega
def NX.sub : NX → NX → NX
  | .lit a, .lit b => .lit (a - b)
  | .sy f k, .lit b => match Nat.ble b k with
    | true => .sy f (k - b)
    | false => .sy (fun _ => f () + k - b) 0
  | a, b => .sy (fun _ => a.val - b.val) 0
theorem NX.sub_val (a b : NX) : (a.sub b).val = a.val - b.val := by
  unfold NX.sub
  split
  · rfl
  · split
    · rename_i h; have := Nat.le_of_ble_eq_true h; simp only [NX.val, addN_eq]; omega
    · simp only [NX.val, addN_eq]; omega
  · simp only [NX.val, addN]
def NX.toIX : NX → IX
  | .lit n => .lit n
  | .sy f k => .nat f k
theorem NX.toIX_val (a : NX) : a.toIX.val = (a.val : Int) := by cases a <;> rfl
def IX.toNX : IX → NX
  | .lit n => .lit n.toNat
  | .nat f k => .sy f k
  | .sy f => .sy (fun _ => (f ()).toNat) 0
theorem IX.toNX_val (a : IX) : a.toNX.val = a.val.toNat := by
  cases a with
  | lit n => rfl
  | nat f k => simp only [IX.toNX, NX.val, IX.val, Int.toNat_natCast]
  | sy f => rfl
def IX.add : IX → IX → IX
  | .lit a, .lit b => .lit (a + b)
  | .nat f k, .lit b => match decide (0 ≤ b) with
    | true => .nat f (k + b.toNat)
    | false => .sy fun _ => ((f () + k : Nat) : Int) + b
  | x, y => .sy fun _ => x.val + y.val
theorem IX.add_val (x y : IX) : (x.add y).val = x.val + y.val := by
  unfold IX.add
  split
  · rfl
  · split
    · rename_i h; have := of_decide_eq_true h; simp only [IX.val, addN_eq]; omega
    · simp only [IX.val, addN_eq]
  · rfl
def IX.sub : IX → IX → IX
  | .lit a, .lit b => .lit (a - b)
  | .nat f k, .lit b => match decide (0 ≤ b), Nat.ble b.toNat k with
    | true, true => .nat f (k - b.toNat)
    | _, _ => .sy fun _ => ((f () + k : Nat) : Int) - b
  | x, y => .sy fun _ => x.val - y.val
theorem IX.sub_val (x y : IX) : (x.sub y).val = x.val - y.val := by
  unfold IX.sub
  split
  · rfl
  · split
    · rename_i h1 h2; have := of_decide_eq_true h1; have := Nat.le_of_ble_eq_true h2; simp only [IX.val, addN_eq]; omega
    · simp only [IX.val, addN_eq]
  · rfl
def leI : IX → IX → Prop
  | .lit a, .lit b => isT (decide (a ≤ b))
  | .lit a, .nat f k => match decide (a ≤ k) with
    | true => True
    | false => In fun _ => a ≤ ((f () + k : Nat) : Int)
  | .nat f k, .nat g m => In fun _ => f () + k ≤ g () + m
  | x, y => In fun _ => x.val ≤ y.val
theorem leI_iff {a b : IX} (h : leI a b) : a.val ≤ b.val := by
  unfold leI at h
  split at h
  · exact of_decide_eq_true (isT_iff.1 h)
  · split at h
    · rename_i h1; have := of_decide_eq_true h1; simp only [IX.val, addN_eq]; omega
    · have := h.ok; simpa only [IX.val, addN_eq] using this
  · have := h.ok; simp only [IX.val, addN_eq]; omega
  · exact h.ok
def ltI : IX → IX → Prop
  | .lit a, .lit b => isT (decide (a < b))
  | .lit a, .nat f k => match decide (a < k) with
    | true => True
    | false => In fun _ => a < ((f () + k : Nat) : Int)
  | .nat f k, .nat g m => In fun _ => f () + k < g () + m
  | x, y => In fun _ => x.val < y.val
theorem ltI_iff {a b : IX} (h : ltI a b) : a.val < b.val := by
  unfold ltI at h
  split at h
  · exact of_decide_eq_true (isT_iff.1 h)
  · split at h
    · rename_i h1; have := of_decide_eq_true h1; simp only [IX.val, addN_eq]; omega
    · have := h.ok; simpa only [IX.val, addN_eq] using this
  · have := h.ok; simp only [IX.val, addN_eq]; omega
  · exact h.ok
def ltB (a b : Int) : Bool := decide (a < b)
def leB (a b : Int) : Bool := decide (a ≤ b)
def eqB (a b : Int) : Bool := decide (a = b)
def ltNB (a b : Nat) : Bool := decide (a < b)
def leNB (a b : Nat) : Bool := decide (a ≤ b)
def eqNB (a b : Nat) : Bool := decide (a = b)
theorem ltB_t {a b : Int} : (ltB a b = true) = (a < b) := by simp [ltB]
theorem ltB_f {a b : Int} : (ltB a b = false) = (b ≤ a) := by simp [ltB]
theorem leB_t {a b : Int} : (leB a b = true) = (a ≤ b) := by simp [leB]
theorem leB_f {a b : Int} : (leB a b = false) = (b < a) := by simp [leB]
theorem eqB_t {a b : Int} : (eqB a b = true) = (a = b) := by simp [eqB]
theorem eqB_f {a b : Int} : (eqB a b = false) = (a ≠ b) := by simp [eqB]
theorem ltNB_t {a b : Nat} : (ltNB a b = true) = (a < b) := by simp [ltNB]
theorem ltNB_f {a b : Nat} : (ltNB a b = false) = (b ≤ a) := by simp [ltNB]
theorem leNB_t {a b : Nat} : (leNB a b = true) = (a ≤ b) := by simp [leNB]
theorem leNB_f {a b : Nat} : (leNB a b = false) = (b < a) := by simp [leNB]
theorem eqNB_t {a b : Nat} : (eqNB a b = true) = (a = b) := by simp [eqNB]
theorem eqNB_f {a b : Nat} : (eqNB a b = false) = (a ≠ b) := by simp [eqNB]
/-- Comparisons, as truths. -/
def ltX : IX → IX → BX
  | .lit a, .lit b => .lit (decide (a < b))
  | .lit a, .nat f k => match decide (a < k) with
    | true => .lit true
    | false => .sy fun _ => ltB a ((f () + k : Nat) : Int)
  | .nat f k, .nat g m => .sy fun _ => ltNB (f () + k) (g () + m)
  | x, y => .sy fun _ => ltB x.val y.val
theorem ltX_val (x y : IX) : (ltX x y).val = decide (x.val < y.val) := by
  unfold ltX
  split
  · rfl
  · split
    · rename_i h1; have := of_decide_eq_true h1; exact (decide_eq_true (by simp only [IX.val, addN_eq]; omega)).symm
    · simp only [BX.val, IX.val, addN_eq, ltB, leB]
  · simp only [BX.val, IX.val, addN_eq, ltNB, leNB, eqNB]; exact decide_eq_decide.2 (by omega)
  · rfl
def leX : IX → IX → BX
  | .lit a, .lit b => .lit (decide (a ≤ b))
  | .lit a, .nat f k => match decide (a ≤ k) with
    | true => .lit true
    | false => .sy fun _ => leB a ((f () + k : Nat) : Int)
  | .nat f k, .nat g m => .sy fun _ => leNB (f () + k) (g () + m)
  | x, y => .sy fun _ => leB x.val y.val
theorem leX_val (x y : IX) : (leX x y).val = decide (x.val ≤ y.val) := by
  unfold leX
  split
  · rfl
  · split
    · rename_i h1; have := of_decide_eq_true h1; exact (decide_eq_true (by simp only [IX.val, addN_eq]; omega)).symm
    · simp only [BX.val, IX.val, addN_eq, ltB, leB]
  · simp only [BX.val, IX.val, addN_eq, ltNB, leNB, eqNB]; exact decide_eq_decide.2 (by omega)
  · rfl
def eqX : IX → IX → BX
  | .lit a, .lit b => .lit (decide (a = b))
  | .nat f k, .nat g m => .sy fun _ => eqNB (f () + k) (g () + m)
  | x, y => .sy fun _ => eqB x.val y.val
theorem eqX_val (x y : IX) : (eqX x y).val = decide (x.val = y.val) := by
  unfold eqX
  split
  · rfl
  · simp only [BX.val, IX.val, addN_eq, ltNB, leNB, eqNB]; exact decide_eq_decide.2 (by omega)
  · rfl
def BX.not : BX → BX
  | .lit b => .lit (!b)
  | .sy f => .sy fun _ => !f ()
theorem BX.not_val (x : BX) : x.not.val = !x.val := by cases x <;> rfl
def BX.and : BX → BX → BX
  | .lit true, y => y
  | .lit false, _ => .lit false
  | x, .lit true => x
  | _, .lit false => .lit false
  | x, y => .sy fun _ => x.val && y.val
theorem BX.and_val (x y : BX) : (x.and y).val = (x.val && y.val) := by
  unfold BX.and
  split <;> simp [BX.val]
def BX.or : BX → BX → BX
  | .lit true, _ => .lit true
  | .lit false, y => y
  | _, .lit true => .lit true
  | x, .lit false => x
  | x, y => .sy fun _ => x.val || y.val
theorem BX.or_val (x y : BX) : (x.or y).val = (x.val || y.val) := by
  unfold BX.or
  split <;> simp [BX.val]
/-- One or the other. -/
def BX.pick : BX → BX → BX → BX
  | .lit true, x, _ => x
  | .lit false, _, y => y
  | z, x, .lit false => z.and x
  | z, .lit true, y => z.or y
  | z, x, y => .sy fun _ => bif z.val then x.val else y.val
theorem BX.pick_val (z x y : BX) : (BX.pick z x y).val = bif z.val then x.val else y.val := by
  unfold BX.pick
  split
  · rfl
  · rfl
  · rw [BX.and_val]; cases z.val <;> simp [BX.val]
  · rw [BX.or_val]; cases z.val <;> simp [BX.val]
  · rfl
/-- If .. then. -/
def impX : BX → Prop → Prop
  | .lit true, p => p
  | .lit false, _ => True
  | .sy f, p => f () = true → p
theorem impX_iff {b : BX} {p : Prop} : impX b p ↔ (b.val = true → p) := by
  cases b with
  | lit b => cases b <;> simp [impX, BX.val]
  | sy f => rfl

def IV.cells : IV → List CV
  | .one x => [x]
  | .agg l => l
  | .tup _ => []
def IV.plain : IV → Prop
  | .tup _ => False
  | _ => True

abbrev Ev := Operand → BX × IV

def cint (k : IntKind) (n : IX) : IV := .one (.i k n)
def cbool (b : BX) : IV := .one (.b b)
/-- A constant's cell. -/
def constC : Value → CV
  | .int k n => .i k (.lit n)
  | .bool b => .b (.lit b)
  | .string s => .s fun _ => s
  | v => .c v

/-- The numbers of a kind. -/
def fitsK (k : IntKind) (n : Int) : Prop := match k with
  | .i64 => -9223372036854775808 ≤ n ∧ n ≤ 9223372036854775807
  | .u8 => 0 ≤ n ∧ n ≤ 255
  | .i16 => -32768 ≤ n ∧ n ≤ 32767
  | .u64 => 0 ≤ n ∧ n ≤ 18446744073709551615
  | _ => False
/-- .. as what must be shown. -/
def fitsX (k : IntKind) : IX → Prop
  | .lit n => In fun _ => fitsK k n
  | x => In fun _ => fitsK k x.val
theorem fitsX_iff {k : IntKind} {x : IX} (h : fitsX k x) : fitsK k x.val := by cases x <;> exact h.ok

def splice (cells : List CV) (off : Nat) (cs : List CV) : List CV := cells.take off ++ cs ++ cells.drop (off + cs.length)

/-- Where an address leads: the object, its element, the cells from there on. -/
structure Spot where
  side : Prop
  i : Nat
  e : NX
  j : Nat
  cells : List CV

def spot (M : Mem) : CV → Spot
  | .ref i => match M i with
    | some (.box _ _ cs) => ⟨True, i, .lit 0, 0, cs⟩
    | _ => ⟨False, i, .lit 0, 0, []⟩
  | .ptr i e j k => match M i with
    | some (.box _ _ cs) => ⟨eqN e (.lit 0), i, .lit 0, j, cs⟩
    | some (.row _ _ k' len get) => ⟨isT (Nat.beq k' k) ∧ ltN e len, i, e, j, get e.val⟩
    | _ => ⟨False, i, .lit 0, 0, []⟩
  | _ => ⟨False, 0, .lit 0, 0, []⟩

/-- A slice that is read: its length; its elements. -/
structure Seen where
  side : Prop
  len : NX
  k : Nat
  get : Nat → List CV
  reads : List Nat

def seen (M : Mem) : CV → Seen
  | .ref i => match M i with
    | some (.row _ _ k len get) => ⟨True, len, k, get, [i]⟩
    | _ => ⟨False, .lit 0, 0, fun _ => [], [i]⟩
  | .sub i s n k => match M i with
    | some (.row _ _ k' len get) => ⟨isT (Nat.beq k' k) ∧ leN (s.add n) len, n, k, fun e => get (s.val + e), [i]⟩
    | _ => ⟨False, .lit 0, 0, fun _ => [], [i]⟩
  | .cut i n => match M i with
    | some (.row _ _ k len get) => ⟨leN n len, n, k, get, [i]⟩
    | _ => ⟨False, .lit 0, 0, fun _ => [], [i]⟩
  | .c (.slice _ 0 0) => ⟨True, .lit 0, 0, fun _ => [], []⟩
  | .c (.slice _ 0 c) => ⟨In fun _ => c ≤ maxLen, .lit 0, 0, fun _ => [], []⟩
  | _ => ⟨False, .lit 0, 0, fun _ => [], []⟩

def Ob.put (o : Ob) (e : NX) (j : Nat) (cs : List CV) : Ob := match o with
  | .box own t cells => .box own t (splice cells j cs)
  | .row md t k len get => .row md t k len fun e' => if e' = e.val then splice (get e.val) j cs else get e'
  | o => o

def arith (op : BinOp) (k : IntKind) (a b : IX) : Out := match op with
  | .add => gives (fitsX k (a.add b)) (cint k (a.add b))
  | .sub => gives (fitsX k (a.sub b)) (cint k (a.sub b))
  | .mul => gives (In fun _ => fitsK k (a.val * b.val)) (cint k (.sy fun _ => a.val * b.val))
  | .quo => gives (In fun _ => b.val ≠ 0 ∧ fitsK k (a.val.tdiv b.val)) (cint k (.sy fun _ => a.val.tdiv b.val))
  | .rem => gives (In fun _ => b.val ≠ 0) (cint k (.sy fun _ => a.val.tmod b.val))
  | .eql => gives True (cbool (eqX a b))
  | .neq => gives True (cbool (eqX a b).not)
  | .lss => gives True (cbool (ltX a b))
  | .leq => gives True (cbool (leX a b))
  | .gtr => gives True (cbool (ltX b a))
  | .geq => gives True (cbool (leX b a))
  | .or => gives (isT (eqK k .i64) ∧ In fun _ => 0 ≤ a.val ∧ a.val ≤ 7 ∧ 0 ≤ b.val ∧ b.val ≤ 7) (cint k (.sy fun _ => ((a.val.toNat ||| b.val.toNat : Nat) : Int)))
  | _ => bad

/-- Two strings are the same. -/
def eqS (a b : ByteArray) : Bool := a == b
/-- Cells of numbers. -/
def intsOf : List CV → Option (List IX)
  | [] => some []
  | .i .i64 x :: r => match intsOf r with
    | some l => some (x :: l)
    | none => none
  | _ => none
def sameX : List IX → List IX → BX
  | [], [] => .lit true
  | a :: l, b :: m => (eqX a b).and (sameX l m)
  | _, _ => .lit false

/-- Which struct types '==' compares cell by cell (all cells numbers of one kind): how many cells. -/
abbrev EqTab := TypeId → Option Nat

def kindIs (T : Tab) (t : TypeId) (k : TK) : Prop := match T t with
  | some ti => ti.kind = k
  | none => False
def isSliceT (T : Tab) (t : TypeId) : Prop := match T t with
  | some ti => match ti.kind with
    | .slice _ => True
    | _ => False
  | none => False
def eqO (op : BinOp) (side : Prop) (b : BX) (reads : List Nat) : Out := match op with
  | .eql => ⟨side, cbool b, [], [], reads⟩
  | .neq => ⟨side, cbool b.not, [], [], reads⟩
  | _ => bad

def arithO (op : BinOp) (k k' : IntKind) (a b : IX) : Out := match op with
  | .shl => gives (isT (eqK k .i64) ∧ In fun _ => a.val = 1 ∧ 0 ≤ b.val ∧ b.val ≤ 2) (cint k (.sy fun _ => 2 ^ b.val.toNat))
  | .shr => bad
  | _ => ⟨isT (eqK k k') ∧ (arith op k a b).side, (arith op k a b).r, [], [], []⟩

def eqB2 : BX → BX → BX
  | x, .lit true => x
  | x, .lit false => x.not
  | x, y => .sy fun _ => x.val == y.val
theorem eqB2_val (x y : BX) : (eqB2 x y).val = (x.val == y.val) := by
  unfold eqB2
  split
  · simp [BX.val]
  · rw [BX.not_val]; simp [BX.val]
  · rfl
/-- Is a row nil? Whether its length or its making says that it is not. -/
def notNil : Md → NX → Prop
  | .mk, _ => True
  | _, len => ltN (.lit 0) len
def eqAggO (op : BinOp) (n : Option Nat) : Option (List IX) → Option (List IX) → Out
  | some xs, some ys => match n with
    | some n => eqO op (isT (Nat.beq n xs.length) ∧ isT (Nat.beq n ys.length)) (sameX xs ys) []
    | none => bad
  | _, _ => bad
def binI (T : Tab) (E : EqTab) (M : Mem) (op : BinOp) (t : TypeId) (x y : IV) : Out := match x, y with
  | .one (.i k a), .one (.i k' b) => arithO op k k' a b
  | .one (.b a), .one (.b b) => eqO op (kindIs T t .bool) (eqB2 a b) []
  | .one (.s a), .one (.s b) => eqO op True (.sy fun _ => eqS (a ()) (b ())) []
  | .agg l, .agg m => eqAggO op (E t) (intsOf l) (intsOf m)
  | .one (.c (.slice none _ _)), .one (.c (.slice none 0 0)) => eqO op (isSliceT T t) (.lit true) []
  | .one (.c (.slice (some _) _ _)), .one (.c (.slice none 0 0)) => eqO op (isSliceT T t) (.lit false) []
  | .one (.ref i), .one (.c (.slice none 0 0)) => match M i with
    | some (.row md _ _ len _) => eqO op (isSliceT T t ∧ notNil md len) (.lit false) [i]
    | _ => bad
  | _, _ => bad

def fillI (place : Nat → Option (Nat × Nat)) (cells : List CV) : List (Nat × List CV) → Option (List CV)
  | [] => some cells
  | (i, cs) :: rest => match place i with
    | none => none
    | some (off, size) => match Nat.beq cs.length size && Nat.ble (off + cs.length) cells.length with
      | true => fillI place (splice cells off cs) rest
      | false => none

def placesI (T : Tab) : List (Nat × TypeId) → Option (List (Nat × Nat))
  | [] => some []
  | (off, ft) :: r => match T ft, placesI T r with
    | some tf, some l => some ((off, tf.size) :: l)
    | _, _ => none

/-- The elements of a row whose cells are written out. -/
def chunk (k : Nat) (cells : List CV) (e : Nat) : List CV := (cells.drop (e * k)).take k

def zeroI (ti : TI) : List CV := ti.zero.map constC

def intOfC : IV → Option IX
  | .one (.i _ n) => some n
  | _ => none

/-- s[lo:hi]: of a row; a lower bound that is missing leaves the beginning (and the capacity) as it was. -/
def sliceI (M : Mem) (sz : Nat) (x : IV) (lo : Option IX) (hi : IX) : Out := match x, lo with
  | .one (.ref i), none => let s := seen M (.ref i); ⟨s.side ∧ isT (Nat.beq s.k sz) ∧ leI (.lit 0) hi ∧ leI hi s.len.toIX, .one (.cut i hi.toNX), [], [], [i]⟩
  | .one (.ref i), some lo => let s := seen M (.ref i); ⟨s.side ∧ isT (Nat.beq s.k sz) ∧ leI (.lit 0) lo ∧ leI lo hi ∧ leI hi s.len.toIX, .one (.sub i lo.toNX (hi.toNX.sub lo.toNX) sz), [], [], [i]⟩
  | .one (.sub i st n k), some lo => ⟨(seen M (.sub i st n k)).side ∧ isT (Nat.beq k sz) ∧ leI (.lit 0) lo ∧ leI lo hi ∧ leI hi n.toIX, .one (.sub i (st.add lo.toNX) (hi.toNX.sub lo.toNX) sz), [], [], [i]⟩
  | .one (.cut i n), none => ⟨(seen M (.cut i n)).side ∧ isT (Nat.beq (seen M (.cut i n)).k sz) ∧ leI (.lit 0) hi ∧ leI hi n.toIX, .one (.cut i hi.toNX), [], [], [i]⟩
  | .one (.c (.slice none 0 0)), lo => gives (leI (.lit 0) (lo.getD (.lit 0)) ∧ leI (lo.getD (.lit 0)) hi ∧ leI hi (.lit 0)) (.one (.c (.slice none 0 0)))
  | _, _ => bad
def sliceStrI (s : Unit → ByteArray) (lo hi : IX) : Out := gives (leI (.lit 0) lo ∧ leI lo hi ∧ In fun _ => hi.val ≤ (s ()).size) (.one (.s fun _ => (s ()).extract lo.val.toNat hi.val.toNat))

def lenI (M : Mem) (x : IV) : Out := match x with
  | .one (.s s) => gives True (cint .i64 (.nat (fun _ => (s ()).size) 0))
  | .one c => let s := seen M c; ⟨s.side, cint .i64 s.len.toIX, [], [], s.reads⟩
  | _ => bad

/-- A byte of a string; the string of a row of bytes. -/
def byteAt (s : ByteArray) (n : Nat) : Int := ((s.data.toList.getD n 0).toNat : Nat)
def lenTy (T : Tab) (t : TypeId) : IV → Prop
  | .one (.s _) => kindIs T t .str
  | _ => isSliceT T t

def arrCells (l : List CV) (te : TI) (i : Nat) : Out := gives (isT (Nat.beq ((l.drop (i * te.size)).take te.size).length te.size)) (match te.isAgg with
  | true => .agg ((l.drop (i * te.size)).take te.size)
  | false => .one (((l.drop (i * te.size)).take te.size).headD .top))
def Out.also (o : Out) (p : Prop) : Out := ⟨p ∧ o.side, o.r, o.news, o.upd, o.reads⟩
def indexI (T : Tab) (t : TypeId) (x ix : IV) : Out := match x, ix with
  | .one (.s s), .one (.i _ i) => gives (leI (.lit 0) i ∧ ltI i (.nat (fun _ => (s ()).size) 0)) (cint .u8 (.sy fun _ => byteAt (s ()) i.val.toNat))
  | .agg l, .one (.i _ i) => match T t with
    | some ti => match ti.kind with
      | .array n e => match T e with
        | some te => (arrCells l te i.toNX.val).also (leI (.lit 0) i ∧ ltI i (.lit n))
        | none => bad
      | _ => bad
    | none => bad
  | _, _ => bad

def indexAddrI (M : Mem) (size : Nat) (x ix : IV) : Out := match x, ix with
  | .one (.ref i), .one (.i _ n) => match M i with
    | some (.row _ _ k len _) => ⟨isT (Nat.beq k size) ∧ leI (.lit 0) n ∧ ltI n len.toIX, .one (.ptr i n.toNX 0 k), [], [], [i]⟩
    | _ => bad
  | .one (.sub i s len k), .one (.i _ n) => gives (isT (Nat.beq k size) ∧ leI (.lit 0) n ∧ ltI n len.toIX) (.one (.ptr i (s.add n.toNX) 0 k))
  | .one (.cut i len), .one (.i _ n) => match M i with
    | some (.row _ _ k _ _) => ⟨isT (Nat.beq k size) ∧ leI (.lit 0) n ∧ ltI n len.toIX, .one (.ptr i n.toNX 0 k), [], [], [i]⟩
    | _ => bad
  | _, _ => bad

def fieldAddrI (T : Tab) (s : TypeId) (x : IV) (f : Nat) : Out := match T s with
  | some ti => match ti.kind with
    | .struct fs => match fs[f]? with
      | some (off, ft) => match T ft with
        | some tf => match x with
          | .one (.ref i) => gives (isT (Nat.blt 0 tf.size)) (.one (.ptr i (.lit 0) off 0))
          | .one (.ptr i e j k) => gives (isT (Nat.blt 0 tf.size)) (.one (.ptr i e (j + off) k))
          | _ => bad
        | none => bad
      | none => bad
    | _ => bad
  | none => bad

def loadI (T : Tab) (M : Mem) (t : TypeId) (x : IV) : Out := match x, T t with
  | .one c, some ti => let s := spot M c; let cs := (s.cells.drop s.j).take ti.size
    ⟨isT (Nat.beq cs.length ti.size) ∧ s.side, match ti.isAgg with
      | true => .agg cs
      | false => .one (cs.headD .top), [], [], [s.i]⟩
  | _, _ => bad

def storeI (T : Tab) (M : Mem) (t : TypeId) (x v : IV) : Out := match x, T t with
  | .one c, some ti => let s := spot M c
    match M s.i with
    | some o => ⟨isT o.own ∧ v.plain ∧ isT (Nat.beq v.cells.length ti.size) ∧ isT (Nat.ble (s.j + ti.size) s.cells.length) ∧ s.side, .tup [], [], [(s.i, o.put s.e s.j v.cells)], [s.i]⟩
    | none => bad
  | _, _ => bad

/-- A byte's cell. -/
def byteOf : List CV → UInt8
  | [.i _ x] => UInt8.ofNat x.val.toNat
  | _ => 0
def isByte : List CV → Prop
  | [.i k x] => k = .u8 ∧ 0 ≤ x.val ∧ x.val ≤ 255
  | _ => False
def strOf (len : Nat) (get : Nat → List CV) : ByteArray := ⟨((List.range len).map fun n => byteOf (get n)).toArray⟩
def kindIsInt (ti : TI) (k : IntKind) : Bool := match ti.kind with
  | .int k' => eqK k' k
  | _ => false
def convertI (T : Tab) (M : Mem) (base : Nat) (src dst : TypeId) (x : IV) : Out := match T src, T dst with
  | some ts, some td => match ts.kind, td.kind, x with
    | .int _, .int k, .one (.i _ n) => gives (fitsX k n) (cint k n)
    | .str, .slice e, .one (.s s) => match T e with
      | some te => makes (isT (kindIsInt te .u8) ∧ In fun _ => (s ()).size ≤ 140737488355328) (.one (.ref base)) (.row .mk e 1 (.sy (fun _ => (s ()).size) 0) fun n => [.i .u8 (.sy fun _ => byteAt (s ()) n)])
      | none => bad
    | .slice e, .str, .one (.ref i) => match T e, M i with
      | some te, some (.row _ _ k len get) => ⟨isT (kindIsInt te .u8) ∧ isT (Nat.beq k 1) ∧ In fun _ => ∀ n, n < len.val → isByte (get n), .one (.s fun _ => strOf len.val get), [], [], [i]⟩
      | _, _ => bad
    | _, _, _ => bad
  | _, _ => bad

/-- So many elements find room. -/
def roomX (bytes : Nat) : NX → Prop
  | .lit n => isT (Nat.ble n 140737488355328 && Nat.ble (n * bytes) 140737488355328)
  | n => In fun _ => n.val ≤ 140737488355328 ∧ n.val * bytes ≤ 140737488355328
theorem roomX_iff {bytes : Nat} {n : NX} (h : roomX bytes n) : n.val ≤ 140737488355328 ∧ n.val * bytes ≤ 140737488355328 := by
  cases n with
  | lit n =>
    have := isT_iff.1 h
    rw [Bool.and_eq_true] at this
    exact ⟨Nat.le_of_ble_eq_true this.1, Nat.le_of_ble_eq_true this.2⟩
  | sy f k => exact h.ok
/-- A slice's elements are so large, if it has any. -/
def sizeX (len : NX) (k size : Nat) : Prop := match len with
  | .lit 0 => True
  | _ => isT (Nat.beq k size)
theorem sizeX_iff {len : NX} {k size : Nat} (h : sizeX len k size) (hl : 0 < len.val) : k = size := by
  unfold sizeX at h
  split at h
  · cases hl
  · exact Nat.eq_of_beq_eq_true (isT_iff.1 h)
def appendNilO (base : Nat) (e : TypeId) (te : TI) (b : Seen) : Out :=
  ⟨isT (Nat.blt 0 te.size) ∧ sizeX b.len b.k te.size ∧ b.side ∧ ltN (.lit 0) b.len ∧ roomX te.bytes b.len, .one (.ref base), [.row .own e te.size b.len b.get], [], b.reads⟩
def appendOwnO (base : Nat) (e : TypeId) (te : TI) (b : Seen) (i : Nat) (e' : TypeId) (k : Nat) (len : NX) (get : Nat → List CV) : Out :=
  ⟨isT (Nat.blt 0 te.size) ∧ isT (Nat.beq e' e) ∧ isT (Nat.beq k te.size) ∧ sizeX b.len b.k te.size ∧ b.side ∧ roomX te.bytes (len.add b.len),
    .one (.ref base), [.row .own e te.size (len.add b.len) fun n => if n < len.val then get n else b.get (n - len.val)], [(i, .dead)], i :: b.reads⟩
/-- append(s[:n], y...) where s has room: in its place. -/
def appendCutO (e : TypeId) (te : TI) (b : Seen) (i : Nat) (n : NX) (e' : TypeId) (k : Nat) (len : NX) (get : Nat → List CV) : Out :=
  ⟨isT (Nat.blt 0 te.size) ∧ isT (Nat.beq e' e) ∧ isT (Nat.beq k te.size) ∧ sizeX b.len b.k te.size ∧ b.side ∧ leN (n.add b.len) len,
    .one (.cut i (n.add b.len)), [], [(i, .row .own e te.size len fun m => if m < n.val then get m else if m < n.val + b.len.val then b.get (m - n.val) else get m)], i :: b.reads⟩
/-- append(x, y...): what is made. -/
def appendI (T : Tab) (M : Mem) (base : Nat) (t : TypeId) (x y : IV) : Out := match T t, x, y with
  | some ti, .one cx, .one cy => match ti.kind with
    | .slice e => match T e with
      | some te => match cx with
        | .c (.slice none 0 0) => appendNilO base e te (seen M cy)
        | .ref i => match M i with
          | some (.row .own e' k len get) => appendOwnO base e te (seen M cy) i e' k len get
          | _ => bad
        | _ => bad
      | none => bad
    | _ => bad
  | _, _, _ => bad

def makeSliceI (T : Tab) (base : Nat) (t : TypeId) (l c : IV) : Out := match T t, l, c with
  | some ti, .one (.i _ n), .one (.i _ m) => match ti.kind with
    | .slice e => match T e with
      | some te => makes (isT (Nat.blt 0 te.size) ∧ leI (.lit 0) n ∧ In fun _ => n.val = m.val ∧ te.bytes * n.val ≤ 140737488355328 ∧ n.val ≤ 9223372036854775807) (.one (.ref base)) (.row .own e te.size n.toNX fun _ => zeroI te)
      | none => bad
    | _ => bad
  | _, _, _ => bad

def maxI (x y : IV) : Out := match x, y with
  | .one (.i k a), .one (.i k' b) => gives (isT (eqK k k')) (cint k (.sy fun _ => max a.val b.val))
  | _, _ => bad
def minI (x y : IV) : Out := match x, y with
  | .one (.i k a), .one (.i k' b) => gives (isT (eqK k k')) (cint k (.sy fun _ => min a.val b.val))
  | _, _ => bad

abbrev Spec := List IV → Mem → Nat → Out
abbrev Gam := FuncId → Option Spec

/-- A call through a function value: the function, all that it is handed. -/
def calleeI (M : Mem) : IV → List IV → Option (FuncId × List IV × List Nat)
  | .one (.c (.func (.func f) ⟨[]⟩ ⟨[]⟩)), args => some (f, args, [])
  | .one (.ref i), args => match M i with
    | some (.clo (.func f) first cap) => some (f, first.map .one ++ args ++ cap.map .one, [i])
    | _ => none
  | _, _ => none

def isLit : BX → Prop
  | .lit true => True
  | .lit false => False
  | .sy f => In fun _ => f () = true
theorem isLit_iff {b : BX} (h : isLit b) : b.val = true := by
  cases b with
  | lit b => cases b with
    | true => rfl
    | false => exact h.elim
  | sy f => exact h.ok
def needs (ev : Ev) (xs : List Operand) : Prop := match xs with
  | [] => True
  | x :: r => isLit (ev x).1 ∧ needs ev r

def callI (T : Tab) (Γ : Gam) (ev : Ev) (M : Mem) (base : Nat) (c : Call) : Out := match c.callee with
  | .builtin b => match b, c.args.toList, c.argTypes.toList with
    | .len, [x], [t] => (lenI M (ev x).2).also (lenTy T t (ev x).2)
    | .append, [x, y], [t, t'] => (appendI T M base t (ev x).2 (ev y).2).also (isT (Nat.beq t t'))
    | .max, [x, y], _ => maxI (ev x).2 (ev y).2
    | .min, [x, y], _ => minI (ev x).2 (ev y).2
    | .max, [x, y, z], _ => match maxI (ev x).2 (ev y).2 with
      | o => (maxI o.r (ev z).2).also o.side
    | _, _, _ => bad
  | .value f => match calleeI M (ev f).2 (c.args.toList.map fun x => (ev x).2) with
    | some (g, args, is) => match Γ g with
      | some sp => let o := sp args M base; ⟨o.side, o.r, o.news, o.upd, is ++ o.reads⟩
      | none => bad
    | none => bad
  | .invoke _ _ => bad

def allPlain : List (Nat × IV) → Prop
  | [] => True
  | p :: r => p.2.plain ∧ allPlain r
def partsI (ps : List (Nat × IV)) : List (Nat × List CV) := ps.map fun p => (p.1, p.2.cells)
def buildO (ps : List (Nat × IV)) : Option (List CV) → Out
  | some cs => gives (allPlain ps) (.agg cs)
  | none => bad
def buildI (T : Tab) (t : TypeId) (ps : List (Nat × IV)) : Out := match T t with
  | some ti => match ti.kind with
    | .struct fs => match placesI T fs with
      | some pl => buildO ps (fillI (fun i => pl[i]?) (zeroI ti) (partsI ps))
      | none => bad
    | .array n e => match T e with
      | some te => buildO ps (fillI (fun i => some (i * te.size, te.size)) (zeroI ti) (partsI ps))
      | none => bad
    | _ => bad
  | none => bad
def zerosI (te : TI) : Nat → List CV
  | 0 => []
  | n + 1 => zeroI te ++ zerosI te n
def buildSliceO (base : Nat) (e : TypeId) (te : TI) (len : Nat) (ps : List (Nat × IV)) : Option (List CV) → Out
  | some cs => makes (isT (Nat.blt 0 te.size) ∧ isT (Nat.ble (len * te.size) 16777216) ∧ allPlain ps) (.one (.ref base)) (.row .own e te.size (.lit len) (chunk te.size cs))
  | none => bad
def buildSliceI (T : Tab) (base : Nat) (t : TypeId) (len : Nat) (ps : List (Nat × IV)) : Out := match T t with
  | some ti => match ti.kind with
    | .slice e => match T e with
      | some te => buildSliceO base e te len ps (fillI (fun i => some (i * te.size, te.size)) (zerosI te len) (partsI ps))
      | none => bad
    | _ => bad
  | none => bad
/-- What is picked is there. -/
def pickOk (z p q : BX) : Prop := In fun _ => (z.val = true → p.val = true) ∧ (z.val = false → q.val = true)
def pickI (ev : Ev) (c a b : Operand) : Out := match (ev c).2, (ev a).2, (ev b).2 with
  | .one (.b z), .one (.b x), .one (.b y) => gives (isLit (ev c).1 ∧ pickOk z (ev a).1 (ev b).1) (cbool (BX.pick z x y))
  | _, _, _ => bad
def nilCheckI (M : Mem) (x : IV) : Out := match x with
  | .one (.ref i) => match M i with
    | some (.box _ _ _) => ⟨True, x, [], [], [i]⟩
    | some (.clo (.func _) _ _) => ⟨True, x, [], [], [i]⟩
    | _ => bad
  | .one (.ptr _ _ _ _) => gives True x
  | .one (.c (.func (.func _) _ _)) => gives True x
  | _ => bad
def unI (op : UnOp) (x : IV) : Out := match op, x with
  | .not, .one (.b b) => gives True (cbool b.not)
  | .neg, .one (.i k n) => gives (In fun _ => fitsK k (-n.val)) (cint k (.sy fun _ => -n.val))
  | _, _ => bad
def IV.isOne : IV → Prop
  | .one _ => True
  | _ => False
def cellOne : List IV → Prop
  | [] => True
  | c :: r => c.isOne ∧ cellOne r
def makeFuncI (base : Nat) (fn : Fn) (first cap : List IV) : Out := makes (cellOne first ∧ cellOne cap) (.one (.ref base)) (.clo fn (first.flatMap (·.cells)) (cap.flatMap (·.cells)))
def fieldI (T : Tab) (t : TypeId) (x : IV) (f : Nat) : Out := match T t, x with
  | some ti, .agg l => match ti.kind with
    | .struct fs => match fs[f]? with
      | some (off, ft) => match T ft with
        | some tf => gives (isT (Nat.beq ((l.drop off).take tf.size).length tf.size)) (match tf.isAgg with
          | true => .agg ((l.drop off).take tf.size)
          | false => .one (((l.drop off).take tf.size).headD .top))
        | none => bad
      | none => bad
    | _ => bad
  | _, _ => bad
def extractI (x : IV) (ix : Nat) : Out := match x with
  | .tup l => match l[ix]? with
    | some v => gives True v.iv
    | none => bad
  | _ => bad
/-- s[lo:hi] of a string, of a slice. -/
def loOf : Option IV → Option (Option IX)
  | none => some none
  | some y => (intOfC y).map some
def hiOf (n : IV) : Option IV → Option IX
  | none => intOfC n
  | some y => intOfC y
def sliceOp (T : Tab) (M : Mem) (t : TypeId) (x : IV) (lo hi : Option IV) : Out := match T t with
  | some ti => match ti.kind, loOf lo, hiOf (lenI M x).r hi with
    | .slice e, some l, some h => match T e with
      | some te => sliceI M te.size x l h
      | none => bad
    | .str, some l, some h => match x with
      | .one (.s s) => sliceStrI s (l.getD (.lit 0)) h
      | _ => bad
    | _, _, _ => bad
  | none => bad
def indexAddrOp (T : Tab) (M : Mem) (t : TypeId) (x ix : IV) : Out := match T t with
  | some ti => match ti.kind with
    | .slice e => match T e with
      | some te => indexAddrI M te.size x ix
      | none => bad
    | _ => bad
  | none => bad

def fieldAddrOp (T : Tab) (M : Mem) (s : TypeId) (x : IV) (f : Nat) : Out := match x with
  | .one (.ref i) => match M i with
    | some (.box _ _ _) => let o := fieldAddrI T s (.one (.ref i)) f; ⟨o.side, o.r, o.news, o.upd, [i]⟩
    | _ => bad
  | x => fieldAddrI T s x f
def strIdx (T : Tab) (t : TypeId) : IV → Prop
  | .one (.s _) => kindIs T t .str
  | _ => True

def evOp (T : Tab) (E : EqTab) (Γ : Gam) (op : Op) (ev : Ev) (M : Mem) (base : Nat) : Out := match op with
  | .move x | .assign x => gives True (ev x).2
  | .alloc t => match T t with
    | some ti => makes True (.one (.ref base)) (.box true t (zeroI ti))
    | none => bad
  | .box t x => makes (ev x).2.plain (.one (.ref base)) (.box true t (ev x).2.cells)
  | .build t parts => buildI T t (parts.toList.map fun p => (p.1, (ev p.2).2))
  | .buildSlice t len parts => buildSliceI T base t len (parts.toList.map fun p => (p.1, (ev p.2).2))
  | .load t a => loadI T M t (ev a).2
  | .store t a v => storeI T M t (ev a).2 (ev v).2
  | .pick c a b => pickI ev c a b
  | .nilCheck x => nilCheckI M (ev x).2
  | .binOp op t x y _ => binI T E M op t (ev x).2 (ev y).2
  | .unOp op _ x => unI op (ev x).2
  | .convert src dst x => convertI T M base src dst (ev x).2
  | .makeFunc fn first cap => makeFuncI base fn (first.toList.map fun x => (ev x).2) (cap.toList.map fun x => (ev x).2)
  | .makeSlice t l c => makeSliceI T base t (ev l).2 (ev c).2
  | .slice t x lo hi none => sliceOp T M t (ev x).2 (lo.map fun y => (ev y).2) (hi.map fun y => (ev y).2)
  | .fieldAddr s x f => fieldAddrOp T M s (ev x).2 f
  | .field t x f => fieldI T t (ev x).2 f
  | .indexAddr t x ix => indexAddrOp T M t (ev x).2 (ev ix).2
  | .index t x ix => (indexI T t (ev x).2 (ev ix).2).also (strIdx T t (ev x).2)
  | .extract t ix => extractI (ev t).2 ix
  | .call c => callI T Γ ev M base c
  | _ => bad

end Go.Proofs.YthgllnnlngihoaaGreat.Sx
end
section
set_option linter.unusedVariables false
set_option linter.unusedSimpArgs false
namespace Go.Proofs.YthgllnnlngihoaaGreat.Sx
open Go.RowKit

section types
variable {P : Program} {T : Tab} {t : TypeId} {ti : TI}
theorem TabOk.info (hT : TabOk P T) (h : T t = some ti) : ∃ i, P.info? t = some i ∧ i.size = ti.size ∧ i.bytes = ti.bytes ∧ i.zero = some ti.zeroV := by
  have := (hT t ti h).info
  cases hi : P.info? t with
  | none => simp [hi] at this
  | some i => simp [hi] at this; exact ⟨i, rfl, this⟩
theorem TabOk.und (hT : TabOk P T) (h : T t = some ti) : ∃ d, P.underlying t = some d ∧ TK.of d = ti.kind := by
  have := (hT t ti h).und
  cases hi : P.underlying t with
  | none => simp [hi] at this
  | some d => simp [hi] at this; exact ⟨d, rfl, this⟩
theorem TabOk.slice (hT : TabOk P T) (h : T t = some ti) {e : TypeId} (hk : ti.kind = .slice e) : P.underlying t = some (.slice e) := by
  obtain ⟨d, hd, hk'⟩ := hT.und h
  rw [hk] at hk'
  cases d <;> simp [TK.of] at hk'
  subst hk'; exact hd
theorem TabOk.int (hT : TabOk P T) (h : T t = some ti) {k : IntKind} (hk : ti.kind = .int k) : P.underlying t = some (.int k) := by
  obtain ⟨d, hd, hk'⟩ := hT.und h
  rw [hk] at hk'
  cases d <;> simp [TK.of] at hk'
  subst hk'; exact hd
theorem TabOk.str (hT : TabOk P T) (h : T t = some ti) (hk : ti.kind = .str) : P.underlying t = some .string := by
  obtain ⟨d, hd, hk'⟩ := hT.und h
  rw [hk] at hk'
  cases d <;> simp [TK.of] at hk'
  exact hd
theorem TabOk.struct (hT : TabOk P T) (h : T t = some ti) {fs : List (Nat × TypeId)} (hk : ti.kind = .struct fs) : ∃ gs : Array Field, P.underlying t = some (.struct gs) ∧ gs.toList.map (fun f => (f.offset, f.type)) = fs := by
  obtain ⟨d, hd, hk'⟩ := hT.und h
  rw [hk] at hk'
  cases d <;> simp [TK.of] at hk'
  rename_i gs
  exact ⟨gs, hd, hk'⟩
theorem TabOk.array (hT : TabOk P T) (h : T t = some ti) {n : Nat} {e : TypeId} (hk : ti.kind = .array n e) : P.underlying t = some (.array n e) := by
  obtain ⟨d, hd, hk'⟩ := hT.und h
  rw [hk] at hk'
  cases d <;> simp [TK.of] at hk'
  obtain ⟨rfl, rfl⟩ := hk'; exact hd
theorem TabOk.isAgg (hT : TabOk P T) (h : T t = some ti) (w : World) : (isAgg t).run P w = .ok ti.isAgg w := by
  obtain ⟨d, hd, hk⟩ := hT.und h
  unfold Go.isAgg TI.isAgg
  rw [Sem.run_bind, run_underlying hd w, ← hk]
  cases d <;> rfl
theorem TabOk.sizeOf (hT : TabOk P T) (h : T t = some ti) (w : World) : (sizeOf t).run P w = .ok ti.size w := by
  obtain ⟨i, hi, h1, _⟩ := hT.info h
  simp [Go.sizeOf, typeInfo, hi, h1]
theorem TabOk.zeroValue (hT : TabOk P T) (h : T t = some ti) (w : World) : (zeroValue t).run P w = .ok ti.zeroV w := by
  obtain ⟨i, hi, _, _, h3⟩ := hT.info h
  simp [Go.zeroValue, typeInfo, hi, h3]
theorem TabOk.zeroCells (hT : TabOk P T) (h : T t = some ti) : ti.zeroV.cells = ti.zero.toArray := by
  have e := hT t ti h
  unfold TI.zeroV
  split
  · rfl
  · rename_i ha
    have h1 := e.one (by simpa using ha)
    have hz := e.zsize
    have ho := e.zone
    match hzz : ti.zero with
    | [] => rw [hzz] at hz; simp at hz; omega
    | [v] =>
      rw [hzz] at ho
      simp at ho
      cases v <;> simp_all [Value.cells, Value.oneCell']
    | _ :: _ :: _ => rw [hzz] at hz; simp at hz; omega
end types

section rel
variable {σ : Ren}
theorem CR_c {v : Value} (h : v.oneCell' = true) : CR σ (.c v) v := ⟨h, rfl⟩
theorem IR_cint (k : IntKind) (n : IX) : IR σ (cint k n) (.int k n.val) := ⟨rfl, rfl⟩
theorem IR_cbool (b : BX) : IR σ (cbool b) (.bool b.val) := ⟨rfl, rfl⟩
theorem CR_const {v : Value} (h : v.oneCell' = true) : CR σ (constC v) v := by
  cases v <;> exact ⟨h, rfl⟩
theorem IR.cells {iv : IV} {v : Value} (h : IR σ iv v) (hp : iv.plain) : All2 (CR σ) iv.cells v.cells.toList := by
  cases iv with
  | one x =>
    have h1 := h.1
    have : v.cells = #[v] := by cases v <;> simp_all [Value.cells, Value.oneCell']
    rw [this]
    exact ⟨h, trivial⟩
  | agg l => obtain ⟨vs, rfl, ha⟩ := h; simpa [Value.cells, IV.cells] using ha
  | tup l => exact hp.elim
theorem All2.oneCell {l : List CV} : ∀ {vs : List Value}, All2 (CR σ) l vs → ∀ v ∈ vs, v.oneCell' = true := by
  induction l with
  | nil => intro vs h v hv; cases vs with
    | nil => simp at hv
    | cons a b => exact h.elim
  | cons c l ih => intro vs h v hv; cases vs with
    | nil => exact h.elim
    | cons a b => rcases List.mem_cons.1 hv with rfl | hv
                  · exact h.1.1
                  · exact ih h.2 v hv
theorem zeroI_rel {ti : TI} (h : ti.zero.all (·.oneCell') = true) : All2 (CR σ) (zeroI ti) ti.zero := by
  unfold zeroI
  have : ∀ l : List Value, l.all (·.oneCell') = true → All2 (CR σ) (l.map constC) l := by
    intro l
    induction l with
    | nil => intro _; trivial
    | cons a l ih => intro h; simp at h; exact ⟨CR_const h.1, ih (by simpa using h.2)⟩
  exact this _ h
/-- Cells that stand somewhere, as a list. -/
theorem cells_list {rd : Nat → Option Value} : ∀ (cs : List CV), (∀ (j : Nat) c, cs[j]? = some c → ∃ v, rd j = some v ∧ CR σ c v) → ∃ vs : List Value, vs.length = cs.length ∧ All2 (CR σ) cs vs ∧ ∀ (j : Nat) v, vs[j]? = some v → rd j = some v := by
  intro cs
  induction cs generalizing rd with
  | nil => intro _; exact ⟨[], rfl, trivial, fun j v h => by simp at h⟩
  | cons c cs ih =>
    intro h
    obtain ⟨v, h0, hv⟩ := h 0 c rfl
    obtain ⟨vs, hl, ha, hg⟩ := ih (rd := fun j => rd (j + 1)) (fun j c' hc => h (j + 1) c' (by simpa using hc))
    refine ⟨v :: vs, by simp [hl], ⟨hv, ha⟩, fun j u hu => ?_⟩
    cases j with
    | zero => simp at hu; subst hu; exact h0
    | succ j => exact hg j u (by simpa using hu)
theorem All2.take {α β : Type} {R : α → β → Prop} : ∀ {l : List α} {m : List β} (n : Nat), All2 R l m → All2 R (l.take n) (m.take n)
  | [], [], n, _ => by simp; trivial
  | _ :: _, _ :: _, 0, _ => by simp; trivial
  | _ :: _, _ :: _, n + 1, h => by simp only [List.take_succ_cons]; exact ⟨h.1, All2.take n h.2⟩
  | [], _ :: _, _, h => h.elim
  | _ :: _, [], _, h => h.elim
theorem All2.drop {α β : Type} {R : α → β → Prop} : ∀ {l : List α} {m : List β} (n : Nat), All2 R l m → All2 R (l.drop n) (m.drop n)
  | [], [], n, _ => by simp; trivial
  | _ :: _, _ :: _, 0, h => h
  | _ :: _, _ :: _, n + 1, h => by simp only [List.drop_succ_cons]; exact All2.drop n h.2
  | [], _ :: _, _, h => h.elim
  | _ :: _, [], _, h => h.elim
theorem All2.splice {l : List CV} {m : List Value} {cs : List CV} {vs : List Value} (off : Nat) (h : All2 (CR σ) l m) (h' : All2 (CR σ) cs vs) : All2 (CR σ) (splice l off cs) (m.take off ++ vs ++ m.drop (off + vs.length)) := by
  unfold Sx.splice
  rw [h'.length]
  exact ((h.take off).append h').append (h.drop _)
end rel

/-- A step that is done. -/
structure StepOk (B : Nat) (O : Nat → Prop) (σ : Ren) (M' : Mem) (out : Out) (base : Nat) (w : World) (v : Value) (w' : World) (σ' : Ren) : Prop where
  le : Ren.le σ σ'
  dom : ∀ i u, σ' i = some u → σ i = some u ∨ (base ≤ i ∧ i < base + out.news.length)
  r : IR σ' out.r v
  sim : Sim B O σ' M' w'
  keep : Keep B O w w'

def updL (M : Mem) : List (Nat × Ob) → Mem
  | [] => M
  | (i, o) :: r => updL (updM M i o) r

section steps
variable {B : Nat} {O : Nat → Prop} {σ : Ren} {M : Mem} {w : World} {base : Nat}
theorem StepOk.pure (h : Sim B O σ M w) {side : Prop} {r : IV} {reads : List Nat} {v : Value} (hr : IR σ r v) : StepOk B O σ M ⟨side, r, [], [], reads⟩ base w v w σ :=
  ⟨Ren.le.refl σ, fun i u hu => .inl hu, hr, h, Keep.refl _ _ _⟩
theorem StepOk.make (h : Sim B O σ M w) {w' : World} (hb : Below w.heap.size w w') {side : Prop} {ob : Ob} {reads : List Nat} {hv : Value} (hone : hv.oneCell' = true) (hM : M base = some ob) (hn : σ base = none)
    (hr : ObRel (σ.set base hv) w' ob hv) (hf : ob.occ → ∀ b, blkOf hv = some b → w.heap.size ≤ b) : StepOk B O σ M ⟨side, .one (.ref base), [ob], [], reads⟩ base w hv w' (σ.set base hv) :=
  ⟨Ren.le_set hv hn, fun i u hu => by
    by_cases e : i = base
    · subst e; exact .inr ⟨Nat.le_refl _, by simp⟩
    · rw [Ren.set_other _ _ e] at hu; exact .inl hu, ⟨hone, Ren.set_same _ _ _⟩, h.add hb hM hn hr hf Ob.occ_of_own, Keep.of_below hb h.size⟩
end steps

section prims
variable {P : Program} {T : Tab} {B : Nat} {O : Nat → Prop} {σ : Ren} {M : Mem} {w : World} {base : Nat} {t : TypeId} {ti : TI}

theorem box_new (h : Sim B O σ M w) {cs : List CV} {vs : Array Value} (hc : All2 (CR σ) cs vs.toList) {side : Prop} {reads : List Nat} (hM : M base = some (.box true t cs)) (hn : σ base = none) :
    StepOk B O σ M ⟨side, .one (.ref base), [.box true t cs], [], reads⟩ base w (.pointer (some ⟨w.heap.size, 0, none⟩)) (w.alloc (.cells vs t)) (σ.set base (.pointer (some ⟨w.heap.size, 0, none⟩))) := by
  refine StepOk.make h ((Below.refl _ w).alloc (Nat.le_refl _) _) rfl hM hn ⟨w.heap.size, vs, rfl, heap_alloc_new w _, hc.mono fun _ _ => CR.le (Ren.le_set _ hn)⟩ ?_
  intro _ b hb
  simp [blkOf, addrOf] at hb
  omega

theorem row_new (h : Sim B O σ M w) {k : Nat} {len : NX} {get : Nat → List CV} {vs : Array Value} (hk : 0 < k) (hm : len.val ≤ maxLen) (hs : vs.size = len.val * k) (hr : RowAt σ (fun n => vs[n]?) k len.val get) {side : Prop} {reads : List Nat} (hM : M base = some (.row .own t k len get)) (hn : σ base = none) :
    StepOk B O σ M ⟨side, .one (.ref base), [.row .own t k len get], [], reads⟩ base w (.slice (some ⟨w.heap.size, 0, none⟩) len.val len.val) (w.alloc (.cells vs t)) (σ.set base (.slice (some ⟨w.heap.size, 0, none⟩) len.val len.val)) := by
  refine StepOk.make h ((Below.refl _ w).alloc (Nat.le_refl _) _) rfl hM hn ⟨hk, .inr ⟨w.heap.size, len.val, vs, rfl, heap_alloc_new w _, Nat.le_refl _, hm, hs, hr.le (Ren.le_set _ hn)⟩⟩ ?_
  intro _ b hb
  simp [blkOf, addrOf] at hb
  omega

/-- What an address leads to stands there. -/
theorem spot_cells (h : Sim B O σ M w) {c : CV} {v : Value} (hv : CR σ c v) (hs : (spot M c).side) : ∃ b o, v = .pointer (some ⟨b, o, none⟩) ∧ ∀ j x, ((spot M c).cells.drop (spot M c).j)[j]? = some x → ∃ u, w.cell? ⟨b, o + j, none⟩ = some u ∧ CR σ x u := by
  cases c with
  | ref i =>
    have hσ : σ i = some v := hv.2
    obtain ⟨ob, hM, hr⟩ := h.ob i v hσ
    cases ob with
    | box own t cs =>
      simp only [spot, hM, List.drop_zero]
      cases own with
      | true =>
        obtain ⟨g, vs, rfl, hg, ha⟩ := hr
        refine ⟨g, 0, rfl, fun j x hx => ?_⟩
        obtain ⟨u, hu, hcr⟩ := ha.get j x hx
        exact ⟨u, by rw [Nat.zero_add, cell_of_row w g j vs t _ hg]; simpa using hu, hcr⟩
      | false =>
        obtain ⟨b, o, rfl, hc⟩ := hr
        exact ⟨b, o, rfl, fun j x hx => hc j x hx⟩
    | row _ _ _ _ _ => simp [spot, hM] at hs
    | clo _ _ _ => simp [spot, hM] at hs
    | dead => simp [spot, hM] at hs
    | obj _ => simp [spot, hM] at hs
  | ptr i e j k =>
    obtain ⟨hone, hv', b, o, hσ, ha, rfl⟩ := hv
    obtain ⟨ob, hM, hr⟩ := h.ob i hv' hσ
    cases ob with
    | box own t cs =>
      simp only [spot, hM] at hs ⊢
      have hs : e.val = 0 := eqN_iff hs
      rw [hs]
      cases own with
      | true =>
        obtain ⟨g, vs, rfl, hg, hall⟩ := hr
        simp [addrOf] at ha
        obtain ⟨rfl, rfl⟩ := ha
        refine ⟨g, _, rfl, fun j' x hx => ?_⟩
        rw [List.getElem?_drop] at hx
        obtain ⟨u, hu, hcr⟩ := hall.get _ x hx
        exact ⟨u, by rw [cell_of_row w g _ vs t _ hg]; simpa using hu, hcr⟩
      | false =>
        obtain ⟨b', o', rfl, hc⟩ := hr
        simp [addrOf] at ha
        obtain ⟨rfl, rfl⟩ := ha
        refine ⟨b', _, rfl, fun j' x hx => ?_⟩
        rw [List.getElem?_drop] at hx
        obtain ⟨u, hu, hcr⟩ := hc _ x hx
        exact ⟨u, by simpa [Nat.add_assoc] using hu, hcr⟩
    | row md t k' len get =>
      simp only [spot, hM] at hs ⊢
      obtain ⟨hkk, he⟩ := hs
      obtain rfl := Nat.eq_of_beq_eq_true (isT_iff.1 hkk)
      have he := ltN_iff he
      cases md with
      | own =>
        obtain ⟨hk, ⟨rfl, h0⟩ | ⟨g, cap, cur, rfl, hg, _, _, _, hra⟩⟩ := hr
        · omega
        · simp [addrOf] at ha
          obtain ⟨rfl, rfl⟩ := ha
          refine ⟨g, _, rfl, fun j' x hx => ?_⟩
          rw [List.getElem?_drop] at hx
          obtain ⟨u, hu, hcr⟩ := (hra e.val he).2 _ x hx
          exact ⟨u, by rw [cell_of_row w g _ cur t _ hg]; simpa [Nat.add_assoc] using hu, hcr⟩
      | mk =>
        obtain ⟨hk, g, cap, cur, fr, rfl, hg, _, _, _, _, hra⟩ := hr
        simp [addrOf] at ha
        obtain ⟨rfl, rfl⟩ := ha
        refine ⟨g, _, rfl, fun j' x hx => ?_⟩
        rw [List.getElem?_drop] at hx
        obtain ⟨u, hu, hcr⟩ := (hra e.val he).2 _ x hx
        exact ⟨u, by rw [cell_of_row w g _ cur t _ hg]; simpa [Nat.add_assoc] using hu, hcr⟩
      | ro =>
        obtain ⟨A, c, rfl, _, _, _, hc⟩ := hr
        obtain ⟨b', o', rfl, hra⟩ := hc (by omega)
        simp [addrOf] at ha
        obtain ⟨rfl, rfl⟩ := ha
        refine ⟨b', _, rfl, fun j' x hx => ?_⟩
        rw [List.getElem?_drop] at hx
        obtain ⟨u, hu, hcr⟩ := (hra e.val he).2 _ x hx
        exact ⟨u, by simpa [Nat.add_assoc] using hu, hcr⟩
    | clo _ _ _ => simp [spot, hM] at hs
    | dead => simp [spot, hM] at hs
    | obj _ => simp [spot, hM] at hs
  | c _ => simp [spot] at hs
  | i _ _ => simp [spot] at hs
  | b _ => simp [spot] at hs
  | s _ => simp [spot] at hs
  | sub _ _ _ _ => simp [spot] at hs
  | cut _ _ => simp [spot] at hs
  | top => simp [spot] at hs

theorem load_ok (hT : TabOk P T) (h : Sim B O σ M w) {x : IV} {v : Value} (hv : IR σ x v) (hs : (loadI T M t x).side) :
    ∃ u, (Instr.loadAt t v).run P w = .ok u w ∧ IR σ (loadI T M t x).r u := by
  unfold loadI at hs ⊢
  cases x with
  | one c =>
    cases ht : T t with
    | none => simp only [ht] at hs; exact hs.elim
    | some ti =>
      simp only [ht] at hs ⊢
      obtain ⟨hlen, hs1⟩ := hs
      have hlen := Nat.eq_of_beq_eq_true (isT_iff.1 hlen)
      obtain ⟨b, o, rfl, hc⟩ := spot_cells h hv hs1
      obtain ⟨vs, hvl, ha, hg⟩ := cells_list (σ := σ) (rd := fun j => w.cell? ⟨b, o + j, none⟩) (((spot M c).cells.drop (spot M c).j).take ti.size) (fun j x hx => by
        rw [List.getElem?_take] at hx
        split at hx
        · exact hc j x hx
        · cases hx)
      rw [hlen] at hvl
      have hl : (loadCells ⟨b, o, none⟩ ti.size).run P w = .ok vs.toArray w := by
        rw [← hvl]
        exact run_loadCells_list w _ vs (fun j u hu => by rw [Addr.add_lit]; exact hg j u hu)
      cases hag : ti.isAgg with
      | true =>
        refine ⟨.agg vs.toArray, ?_, ?_⟩
        · simp [Instr.loadAt, Instr.sureAddr, loadVar, hT.isAgg ht, hag, hT.sizeOf ht, hl]
        · simp only [if_true]
          exact ⟨vs, rfl, ha⟩
      | false =>
        have h1 := (hT t ti ht).one hag
        rw [h1] at hvl
        match vs, hvl with
        | [u], _ =>
          have hu := hg 0 u rfl
          refine ⟨u, ?_, ?_⟩
          · simp [Instr.loadAt, Instr.sureAddr, loadVar, hT.isAgg ht, hag]
            simp at hu
            rw [hu]
          · simp only [Bool.false_eq_true, if_false]
            rw [h1] at hlen ha ⊢
            match hcs : ((spot M c).cells.drop (spot M c).j).take 1 with
            | [] => rw [hcs] at hlen; simp at hlen
            | [x] => rw [hcs] at ha; exact ha.1
            | _ :: _ :: _ => rw [hcs] at hlen; simp at hlen
  | agg l => exact hs.elim
  | tup l => exact hs.elim
end prims
end Go.Proofs.YthgllnnlngihoaaGreat.Sx
end
section
set_option linter.unusedVariables false
set_option linter.unusedSimpArgs false
namespace Go.Proofs.YthgllnnlngihoaaGreat.Sx
open Go.RowKit

theorem spliced_get {α : Type} (l vs : List α) (n i : Nat) (h : n + vs.length ≤ l.length) :
    (l.take n ++ vs ++ l.drop (n + vs.length))[i]? = if i < n then l[i]? else if i < n + vs.length then vs[i - n]? else l[i]? := by
  have hn : (l.take n).length = n := by simp; omega
  split
  · rename_i h1
    rw [List.append_assoc, List.getElem?_append_left (by omega), List.getElem?_take_of_lt h1]
  · rename_i h1
    split
    · rename_i h2
      rw [List.append_assoc, List.getElem?_append_right (by omega), hn, List.getElem?_append_left (by omega)]
    · rename_i h2
      rw [List.getElem?_append_right (by simp; omega), List.getElem?_drop]
      congr 1
      simp
      omega

theorem heap_setCell_at (w : World) (g o : Nat) (v : Value) (cur : Array Value) (t : TypeId) (fr : Nat × Nat) (hg : w.heap[g]? = some (.cells cur t fr)) :
    (w.setCell ⟨g, o, none⟩ v).heap[g]? = some (.cells (cur.setIfInBounds o v) t fr) := by
  simp only [World.setCell, Array.getElem?_modify, if_true, hg]
  rfl

theorem run_storeCells_fr (P : Program) (g o : Nat) (t : TypeId) (fr : Nat × Nat) : ∀ (vs : List Value) (i : Nat) (cur : Array Value) (w : World), w.heap[g]? = some (.cells cur t fr) → (cur.size ≤ fr.1 ∨ fr = (0, 0)) → o + i + vs.length ≤ cur.size → (∀ v ∈ vs, v.oneCell' = true) →
    ∃ w', (storeCells ⟨g, o, none⟩ vs i).run P w = .ok () w' ∧ w'.heap[g]? = some (.cells (cur.toList.take (o + i) ++ vs ++ cur.toList.drop (o + i + vs.length)).toArray t fr) ∧
      (∀ k, k ≠ g → w'.heap[k]? = w.heap[k]?) ∧ w'.os = w.os ∧ w'.tape = w.tape ∧ w'.output = w.output ∧ w'.heap.size = w.heap.size
  | [], i, cur, w, hg, hf, hl, h1 => ⟨w, rfl, by simpa using hg, fun _ _ => rfl, rfl, rfl, rfl, rfl⟩
  | v :: rest, i, cur, w, hg, hf, hl, h1 => by
    simp only [List.length_cons] at hl
    have hc : w.cell? ⟨g, o + i, none⟩ = some (cur[o + i]'(by omega)) := by rw [cell_of_row w g (o + i) cur t fr hg]; simp [show o + i < cur.size by omega]
    have hfz : w.frozen? ⟨g, o + i, none⟩ = false := by
      simp only [World.frozen?, hg]
      obtain ⟨lo, hi⟩ := fr
      rcases hf with hf | hf
      · simp at hf ⊢; intro h; omega
      · cases hf; simp
    have hone := h1 v (by simp)
    have hst : (store (Addr.add ⟨g, o, none⟩ i) v).run P w = .ok () (w.setCell ⟨g, o + i, none⟩ v) := by
      rw [Addr.add_lit, run_store P w _ v _ hone, hc]
      simp [hfz]
    obtain ⟨w', hr, hg', hk, a, b, c, d⟩ := run_storeCells_fr P g o t fr rest (i + 1) (cur.setIfInBounds (o + i) v) (w.setCell ⟨g, o + i, none⟩ v) (heap_setCell_at w g (o + i) v cur t fr hg) (by simpa using hf) (by simp; omega) (fun u hu => h1 u (by simp [hu]))
    refine ⟨w', ?_, ?_, ?_, a, b, c, by rw [d]; simp⟩
    · simp only [storeCells, Sem.run_bind, hst, Result.andThen_ok]
      exact hr
    · rw [hg']
      congr 2
      apply congrArg
      apply List.ext_getElem?
      intro j
      have hl1 : o + i + (v :: rest).length ≤ cur.toList.length := by simp; omega
      have hl2 : o + (i + 1) + rest.length ≤ (cur.setIfInBounds (o + i) v).toList.length := by simp; omega
      rw [spliced_get _ _ _ _ hl1, spliced_get _ _ _ _ hl2]
      simp only [Array.toList_setIfInBounds, List.getElem?_set, List.length_cons, Array.length_toList]
      by_cases e1 : j < o + i
      · rw [if_pos (show j < o + (i + 1) by omega), if_pos e1, if_neg (show ¬ o + i = j by omega)]
      · by_cases e2 : j = o + i
        · subst e2
          rw [if_pos (show o + i < o + (i + 1) by omega), if_neg e1, if_pos (show o + i < o + i + (rest.length + 1) by omega)]
          simp
          omega
        · rw [if_neg (show ¬ j < o + (i + 1) by omega), if_neg e1]
          by_cases e3 : j < o + (i + 1) + rest.length
          · rw [if_pos e3, if_pos (show j < o + i + (rest.length + 1) by omega)]
            obtain ⟨m, rfl⟩ : ∃ m, j = o + i + 1 + m := ⟨j - (o + i + 1), by omega⟩
            rw [show o + i + 1 + m - (o + (i + 1)) = m by omega, show o + i + 1 + m - (o + i) = m + 1 by omega]
            rfl
          · rw [if_neg e3, if_neg (show ¬ j < o + i + (rest.length + 1) by omega), if_neg (show ¬ o + i = j by omega)]
    · intro k hkg
      rw [hk k hkg]
      exact Below.heap_setCell w ⟨g, o + i, none⟩ v k hkg

/-- Elements behind a write into one of them. -/
theorem RowAt.write {σ : Ren} {cur : List Value} {k len : Nat} {get : Nat → List CV} (hr : RowAt σ (fun n => cur[n]?) k len get) {e j : Nat} {cs : List CV} {vs : List Value} (ha : All2 (CR σ) cs vs) (he : e < len) (hj : j + cs.length ≤ k)
    (hl : e * k + j + vs.length ≤ cur.length) : RowAt σ (fun n => (cur.take (e * k + j) ++ vs ++ cur.drop (e * k + j + vs.length))[n]?) k len (fun e' => if e' = e then splice (get e) j cs else get e') := by
  have hvl := ha.length
  intro e' he'
  by_cases e1 : e' = e
  · subst e1
    obtain ⟨hk, hc⟩ := hr e' he'
    simp only [if_true]
    refine ⟨by simp [splice]; omega, fun j' c hc' => ?_⟩
    have hsp : (splice (get e') j cs)[j']? = if j' < j then (get e')[j']? else if j' < j + cs.length then cs[j' - j]? else (get e')[j']? := by
      unfold splice
      exact spliced_get _ _ _ _ (by omega)
    rw [hsp] at hc'
    rw [spliced_get _ _ _ _ hl]
    split at hc'
    · rename_i h1
      rw [if_pos (by omega)]
      exact hc j' c hc'
    · rename_i h1
      split at hc'
      · rename_i h2
        rw [if_neg (by omega), if_pos (by omega)]
        obtain ⟨v, hv, hcr⟩ := ha.get _ c hc'
        exact ⟨v, by rw [show e' * k + j' - (e' * k + j) = j' - j by omega]; exact hv, hcr⟩
      · rename_i h2
        rw [if_neg (by omega), if_neg (by omega)]
        exact hc j' c hc'
  · obtain ⟨hk, hc⟩ := hr e' he'
    simp only [if_neg e1]
    refine ⟨hk, fun j' c hc' => ?_⟩
    have hj' : j' < k := by
      rcases Nat.lt_or_ge j' k with h | h
      · exact h
      · rw [List.getElem?_eq_none (by omega)] at hc'; cases hc'
    rw [spliced_get _ _ _ _ hl]
    rcases Nat.lt_or_gt_of_ne e1 with h | h
    · have : (e' + 1) * k ≤ e * k := Nat.mul_le_mul_right k h
      rw [Nat.add_mul, Nat.one_mul] at this
      rw [if_pos (by omega)]
      exact hc j' c hc'
    · have : (e + 1) * k ≤ e' * k := Nat.mul_le_mul_right k h
      rw [Nat.add_mul, Nat.one_mul] at this
      rw [if_neg (by omega), if_neg (by omega)]
      exact hc j' c hc'

section prims
variable {P : Program} {T : Tab} {B : Nat} {O : Nat → Prop} {σ : Ren} {M : Mem} {w : World} {base : Nat} {t : TypeId} {ti : TI}

/-- A store at an address. -/
theorem put_ok (h : Sim B O σ M w) {c : CV} {v : Value} (hv : CR σ c v) (hs : (spot M c).side) {o : Ob} (ho : M (spot M c).i = some o) (hown : o.own = true) {cs : List CV} {vs : List Value} (ha : All2 (CR σ) cs vs) (hl : (spot M c).j + cs.length ≤ (spot M c).cells.length) :
    ∃ b off w', v = .pointer (some ⟨b, off, none⟩) ∧ (storeCells ⟨b, off, none⟩ vs).run P w = .ok () w' ∧ Sim B O σ (updM M (spot M c).i (o.put (spot M c).e (spot M c).j cs)) w' ∧ Keep B O w w' := by
  have hvl := ha.length
  have fin : ∀ (i : Nat) (hv' : Value) (ob ob' : Ob) (b off : Nat) (cur : Array Value) (tt : TypeId) (fr : Nat × Nat), σ i = some hv' → M i = some ob → ob.own = true → blkOf hv' = some b → w.heap[b]? = some (.cells cur tt fr) → (cur.size ≤ fr.1 ∨ fr = (0, 0)) → off + vs.length ≤ cur.size →
      (∀ w' : World, w'.heap[b]? = some (.cells (cur.toList.take off ++ vs ++ cur.toList.drop (off + vs.length)).toArray tt fr) → ObRel σ w' ob' hv') →
      ∃ w', (storeCells ⟨b, off, none⟩ vs).run P w = .ok () w' ∧ Sim B O σ (updM M i ob') w' ∧ Keep B O w w' := by
    intro i hv' ob ob' b off cur tt fr hσ hM hob hb hg hf hle hrel
    obtain ⟨w', hr, hg', hk, a1, a2, a3, a4⟩ := run_storeCells_fr P b off tt fr vs 0 cur w hg hf (by simpa using hle) (All2.oneCell ha)
    simp only [Nat.add_zero] at hg'
    exact ⟨w', hr, h.write hσ hM hob hb hk (by omega) (hrel w' hg'), Keep.of_write (h.own i hv' ob b hσ hM hob hb) hk a1 a2 a3 (by omega)⟩
  cases c with
  | ref i =>
    have hσ : σ i = some v := hv.2
    obtain ⟨ob, hM, hr⟩ := h.ob i v hσ
    cases ob with
    | box bo tt cells =>
      simp only [spot, hM, Option.some.injEq] at ho hl ⊢
      subst ho
      cases bo with
      | false => simp [Ob.own] at hown
      | true =>
        obtain ⟨g, vs', rfl, hg, hall⟩ := hr
        have hsz := hall.length
        simp only [Array.length_toList] at hsz
        obtain ⟨w', h1, h2, h3⟩ := fin i _ _ (.box true tt (splice cells 0 cs)) g 0 vs' tt (0, 0) hσ hM rfl rfl hg (.inr rfl) (by omega) (fun w' hw' => ⟨g, _, rfl, hw', by simpa using All2.splice 0 hall ha⟩)
        exact ⟨g, 0, w', rfl, h1, h2, h3⟩
    | row _ _ _ _ _ => simp [spot, hM] at hs
    | clo _ _ _ => simp [spot, hM] at hs
    | dead => simp [spot, hM] at hs
    | obj _ => simp [spot, hM] at hs
  | ptr i e j k =>
    obtain ⟨hone, hv', b, off, hσ, haddr, rfl⟩ := hv
    obtain ⟨ob, hM, hr⟩ := h.ob i hv' hσ
    cases ob with
    | box bo tt cells =>
      simp only [spot, hM, Option.some.injEq] at hs ho hl ⊢
      subst ho
      have hs : e.val = 0 := eqN_iff hs
      rw [hs]
      cases bo with
      | false => simp [Ob.own] at hown
      | true =>
        obtain ⟨g, vs', rfl, hg, hall⟩ := hr
        simp [addrOf] at haddr
        obtain ⟨rfl, rfl⟩ := haddr
        have hsz := hall.length
        simp only [Array.length_toList] at hsz
        obtain ⟨w', h1, h2, h3⟩ := fin i _ _ (.box true tt (splice cells j cs)) g (0 + (0 * k + j)) vs' tt (0, 0) hσ hM rfl rfl hg (.inr rfl) (by omega) (fun w' hw' => ⟨g, _, rfl, hw', by simpa using All2.splice j hall ha⟩)
        exact ⟨g, _, w', rfl, h1, h2, h3⟩
    | row md tt k' len get =>
      simp only [spot, hM, Option.some.injEq] at hs ho hl ⊢
      subst ho
      obtain ⟨hkk, he⟩ := hs
      obtain rfl := Nat.eq_of_beq_eq_true (isT_iff.1 hkk)
      have he := ltN_iff he
      cases md with
      | ro => simp [Ob.own] at hown
      | own =>
        obtain ⟨hk, ⟨rfl, h0⟩ | ⟨g, cap, cur, rfl, hg, hlc, hcm, hcs, hra⟩⟩ := hr
        · omega
        · simp [addrOf] at haddr
          obtain ⟨rfl, rfl⟩ := haddr
          have hk1 := (hra e.val he).1
          have hmul : (e.val + 1) * k' ≤ cap * k' := Nat.mul_le_mul_right k' (by omega)
          rw [Nat.add_mul, Nat.one_mul] at hmul
          obtain ⟨w', h1, h2, h3⟩ := fin i _ _ (.row .own tt k' len fun e' => if e' = e.val then splice (get e.val) j cs else get e') g (0 + (e.val * k' + j)) cur tt (0, 0) hσ hM rfl rfl hg (.inr rfl) (by omega)
            (fun w' hw' => ⟨hk, .inr ⟨g, cap, _, rfl, hw', hlc, hcm, by simp; omega, by
              have := RowAt.write (cur := cur.toList) (j := j) (by simpa using hra) ha he (by omega) (by simp; omega)
              simpa using this⟩⟩)
          exact ⟨g, _, w', rfl, h1, h2, h3⟩
      | mk =>
        obtain ⟨hk, g, cap, cur, fr, rfl, hg, hfr, hlc, hcm, hcs, hra⟩ := hr
        simp [addrOf] at haddr
        obtain ⟨rfl, rfl⟩ := haddr
        have hk1 := (hra e.val he).1
        have hmul : (e.val + 1) * k' ≤ cap * k' := Nat.mul_le_mul_right k' (by omega)
        rw [Nat.add_mul, Nat.one_mul] at hmul
        obtain ⟨w', h1, h2, h3⟩ := fin i _ _ (.row .mk tt k' len fun e' => if e' = e.val then splice (get e.val) j cs else get e') g (0 + (e.val * k' + j)) cur tt fr hσ hM rfl rfl hg (.inl hfr) (by omega)
          (fun w' hw' => ⟨hk, g, cap, _, fr, rfl, hw', by simp; omega, hlc, hcm, by simp; omega, by
            have := RowAt.write (cur := cur.toList) (j := j) (by simpa using hra) ha he (by omega) (by simp; omega)
            simpa using this⟩)
        exact ⟨g, _, w', rfl, h1, h2, h3⟩
    | clo _ _ _ => simp [spot, hM] at hs
    | dead => simp [spot, hM] at hs
    | obj _ => simp [spot, hM] at hs
  | c _ => simp [spot] at hs
  | i _ _ => simp [spot] at hs
  | b _ => simp [spot] at hs
  | s _ => simp [spot] at hs
  | sub _ _ _ _ => simp [spot] at hs
  | cut _ _ => simp [spot] at hs
  | top => simp [spot] at hs

theorem store_ok (hT : TabOk P T) (h : Sim B O σ M w) {x y : IV} {v u : Value} (hv : IR σ x v) (hu : IR σ y u) (hs : (storeI T M t x y).side) :
    ∃ w', (Instr.storeAt t v u).run P w = .ok () w' ∧ StepOk B O σ (updL M (storeI T M t x y).upd) (storeI T M t x y) base w undef w' σ := by
  unfold storeI at hs ⊢
  cases x with
  | one c =>
    cases ht : T t with
    | none => simp only [ht] at hs; exact hs.elim
    | some ti =>
      simp only [ht] at hs ⊢
      cases ho : M (spot M c).i with
      | none => simp only [ho] at hs; exact hs.elim
      | some o =>
        simp only [ho] at hs ⊢
        obtain ⟨h2, h3, h4, h5, h1⟩ := hs
        have h2 := isT_iff.1 h2
        have h4 := Nat.eq_of_beq_eq_true (isT_iff.1 h4)
        have h5 := Nat.le_of_ble_eq_true (isT_iff.1 h5)
        have ha := hu.cells h3
        obtain ⟨b, off, w', rfl, hr, hsim, hkeep⟩ := put_ok (P := P) h hv h1 ho h2 ha (by omega)
        refine ⟨w', ?_, ⟨Ren.le.refl _, fun i u hu => .inl hu, ⟨[], rfl, trivial⟩, hsim, hkeep⟩⟩
        have hsz : u.cells.size = ti.size := by have := ha.length; simp at this; omega
        simp [Instr.storeAt, Instr.sureAddr, storeVar, hT.sizeOf ht, hsz, hr]
  | agg l => exact hs.elim
  | tup l => exact hs.elim
end prims
end Go.Proofs.YthgllnnlngihoaaGreat.Sx
end
section
set_option linter.unusedVariables false
set_option linter.unusedSimpArgs false
namespace Go.Proofs.YthgllnnlngihoaaGreat.Sx
open Go.RowKit

theorem flat_list {σ : Ren} {rd : Nat → Option Value} {k : Nat} {get : Nat → List CV} : ∀ (len : Nat), RowAt σ rd k len get → ∃ vs : List Value, vs.length = len * k ∧ (∀ j v, vs[j]? = some v → rd j = some v) ∧ RowAt σ (fun n => vs[n]?) k len get ∧ ∀ v ∈ vs, v.oneCell' = true
  | 0, _ => ⟨[], by simp, fun j v h => by simp at h, fun e he => by omega, fun v hv => by simp at hv⟩
  | len + 1, hr => by
    obtain ⟨vs, hl, hg, hra, h1⟩ := flat_list len (fun e he => hr e (by omega))
    obtain ⟨hk, hc⟩ := hr len (by omega)
    obtain ⟨ws, hwl, hwa, hwg⟩ := cells_list (σ := σ) (rd := fun j => rd (len * k + j)) (get len) hc
    refine ⟨vs ++ ws, by simp [hl, hwl, hk, Nat.add_mul], fun j v hj => ?_, fun e he => ?_, fun v hv => ?_⟩
    · rw [List.getElem?_append] at hj
      split at hj
      · exact hg j v hj
      · rename_i hlt
        have := hwg _ v hj
        rwa [hl, show len * k + (j - len * k) = j by omega] at this
    · by_cases e1 : e = len
      · subst e1
        refine ⟨hk, fun j c hj => ?_⟩
        obtain ⟨v, hv, hcr⟩ := hwa.get j c hj
        refine ⟨v, ?_, hcr⟩
        show (vs ++ ws)[e * k + j]? = some v
        rw [List.getElem?_append_right (by omega), hl, show e * k + j - e * k = j by omega]
        exact hv
      · obtain ⟨h2, h3⟩ := hra e (by omega)
        refine ⟨h2, fun j c hj => ?_⟩
        obtain ⟨v, hv, hcr⟩ := h3 j c hj
        refine ⟨v, ?_, hcr⟩
        show (vs ++ ws)[e * k + j]? = some v
        rw [List.getElem?_append_left]
        · exact hv
        · exact (List.getElem?_eq_some_iff.1 hv).1
    · rcases List.mem_append.1 hv with h | h
      · exact h1 v h
      · exact All2.oneCell hwa v h

theorem RowAt.of_list {σ : Ren} {vs : List Value} {rd : Nat → Option Value} {k len : Nat} {get : Nat → List CV} (h : RowAt σ (fun n => vs[n]?) k len get) (hrd : ∀ j v, vs[j]? = some v → rd j = some v) : RowAt σ rd k len get :=
  fun e he => ⟨(h e he).1, fun j c hj => let ⟨v, a, b⟩ := (h e he).2 j c hj; ⟨v, hrd _ _ a, b⟩⟩

/-- One row's elements behind another's. -/
theorem RowAt.append {σ : Ren} {xs ys : List Value} {k m n : Nat} {get get' : Nat → List CV} (hl : xs.length = m * k) (h : RowAt σ (fun i => xs[i]?) k m get) (h' : RowAt σ (fun i => ys[i]?) k n get') :
    RowAt σ (fun i => (xs ++ ys)[i]?) k (m + n) (fun e => if e < m then get e else get' (e - m)) := by
  intro e he
  by_cases e1 : e < m
  · simp only [if_pos e1]
    obtain ⟨h2, h3⟩ := h e e1
    refine ⟨h2, fun j c hj => ?_⟩
    obtain ⟨v, hv, hcr⟩ := h3 j c hj
    exact ⟨v, by rw [List.getElem?_append_left (List.getElem?_eq_some_iff.1 hv).1]; exact hv, hcr⟩
  · simp only [if_neg e1]
    obtain ⟨h2, h3⟩ := h' (e - m) (by omega)
    refine ⟨h2, fun j c hj => ?_⟩
    obtain ⟨v, hv, hcr⟩ := h3 j c hj
    obtain ⟨d, rfl⟩ : ∃ d, e = m + d := ⟨e - m, by omega⟩
    rw [show m + d - m = d by omega] at hv
    refine ⟨v, ?_, hcr⟩
    rw [List.getElem?_append_right (by rw [hl, Nat.add_mul]; omega), hl, Nat.add_mul, show m * k + d * k + j - m * k = d * k + j by omega]
    exact hv

section prims
variable {P : Program} {T : Tab} {B : Nat} {O : Nat → Prop} {σ : Ren} {M : Mem} {w : World} {base : Nat} {t : TypeId} {ti : TI}

/-- A slice that is read: its value, its cells. -/
theorem seen_ok (h : Sim B O σ M w) {c : CV} {v : Value} (hv : CR σ c v) (hs : (seen M c).side) :
    ∃ A cp, v = .slice A (seen M c).len.val cp ∧ (seen M c).len.val ≤ maxLen ∧ (0 < (seen M c).len.val → ∃ b o, A = some ⟨b, o, none⟩ ∧ RowAt σ (fun n => w.cell? ⟨b, o + n, none⟩) (seen M c).k (seen M c).len.val (seen M c).get) := by
  have rowc : ∀ (i : Nat) (hv' : Value) (md : Md) (tt : TypeId) (k : Nat) (len : NX) (get : Nat → List CV), σ i = some hv' → M i = some (.row md tt k len get) → ∃ A cp, hv' = .slice A len.val cp ∧ len.val ≤ cp ∧ cp ≤ maxLen ∧ (0 < len.val → ∃ b o, A = some ⟨b, o, none⟩ ∧ RowAt σ (fun n => w.cell? ⟨b, o + n, none⟩) k len.val get) := by
    intro i hv' md tt k len get hσ hM
    obtain ⟨ob, hM', hr⟩ := h.ob i hv' hσ
    rw [hM] at hM'
    cases hM'
    cases md with
    | ro => obtain ⟨A, c, e, h1, h2, _, h3⟩ := hr; exact ⟨A, c, e, h1, h2, h3⟩
    | own =>
      obtain ⟨_, ⟨e, hl⟩ | ⟨g, cap, cur, e, hg, h1, h2, _, hra⟩⟩ := hr
      · rw [hl]; exact ⟨none, 0, e, Nat.le_refl _, Nat.zero_le _, fun h => by omega⟩
      · exact ⟨_, cap, e, h1, h2, fun _ => ⟨g, 0, rfl, fun e' he' => ⟨(hra e' he').1, fun j c hj => by
          obtain ⟨u, hu, hcr⟩ := (hra e' he').2 j c hj
          exact ⟨u, by show w.cell? ⟨g, 0 + (e' * k + j), none⟩ = _; rw [cell_of_row w g _ cur tt _ hg, Nat.zero_add]; exact hu, hcr⟩⟩⟩⟩
    | mk =>
      obtain ⟨_, g, cap, cur, fr, e, hg, _, h1, h2, _, hra⟩ := hr
      exact ⟨_, cap, e, h1, h2, fun _ => ⟨g, 0, rfl, fun e' he' => ⟨(hra e' he').1, fun j c hj => by
        obtain ⟨u, hu, hcr⟩ := (hra e' he').2 j c hj
        exact ⟨u, by show w.cell? ⟨g, 0 + (e' * k + j), none⟩ = _; rw [cell_of_row w g _ cur tt _ hg, Nat.zero_add]; exact hu, hcr⟩⟩⟩⟩
  cases c with
  | ref i =>
    have hσ : σ i = some v := hv.2
    obtain ⟨ob, hM, hr⟩ := h.ob i v hσ
    cases ob with
    | row md tt k len get =>
      simp only [seen, hM]
      obtain ⟨A, cp, e, h1, h2, h3⟩ := rowc i v md tt k len get hσ hM
      exact ⟨A, cp, e, Nat.le_trans h1 h2, h3⟩
    | box _ _ _ => simp [seen, hM] at hs
    | clo _ _ _ => simp [seen, hM] at hs
    | dead => simp [seen, hM] at hs
    | obj _ => simp [seen, hM] at hs
  | sub i s n k =>
    obtain ⟨hone, hv', A, c, hσ, rfl, hnc, hcm, hA⟩ := hv
    obtain ⟨ob, hM, hr⟩ := h.ob i hv' hσ
    cases ob with
    | row md tt k' len get =>
      simp only [seen, hM] at hs ⊢
      obtain ⟨hkk, hle⟩ := hs
      obtain rfl := Nat.eq_of_beq_eq_true (isT_iff.1 hkk)
      have hle := leN_iff hle
      rw [NX.add_val] at hle
      obtain ⟨A', cp, e, h1, h2, h3⟩ := rowc i hv' md tt k' len get hσ hM
      refine ⟨A, c, rfl, Nat.le_trans hnc hcm, fun hn => ?_⟩
      obtain ⟨b, o, ha, rfl⟩ := hA hn
      obtain ⟨b', o', e', hra⟩ := h3 (by omega)
      subst e
      subst e'
      simp [addrOf] at ha
      obtain ⟨rfl, rfl⟩ := ha
      refine ⟨b', _, rfl, fun e' he' => ⟨(hra (s.val + e') (by omega)).1, fun j x hj => ?_⟩⟩
      obtain ⟨u, hu, hcr⟩ := (hra (s.val + e') (by omega)).2 j x hj
      refine ⟨u, ?_, hcr⟩
      rw [Nat.add_mul] at hu
      simpa [Nat.add_assoc] using hu
    | box _ _ _ => simp [seen, hM] at hs
    | clo _ _ _ => simp [seen, hM] at hs
    | dead => simp [seen, hM] at hs
    | obj _ => simp [seen, hM] at hs
  | cut i n =>
    obtain ⟨hone, a, L, c, hσ, rfl, hnL⟩ := hv
    obtain ⟨ob, hM, hr⟩ := h.ob i _ hσ
    cases ob with
    | row md tt k len get =>
      simp only [seen, hM] at hs ⊢
      obtain ⟨A, cp, e, h1, h2, h3⟩ := rowc i _ md tt k len get hσ hM
      cases e
      have hs := leN_iff hs
      exact ⟨a, c, rfl, by omega, fun hn => let ⟨b, o, e, hra⟩ := h3 (by omega); ⟨b, o, e, fun e' he' => hra e' (by omega)⟩⟩
    | box _ _ _ => simp [seen, hM] at hs
    | clo _ _ _ => simp [seen, hM] at hs
    | dead => simp [seen, hM] at hs
    | obj _ => simp [seen, hM] at hs
  | c u =>
    have hu : v = u := hv.2
    subst hu
    unfold seen at hs ⊢
    split at hs
    · rename_i h1; cases h1
    · rename_i h1; cases h1
    · rename_i h1; cases h1
    · rename_i h1; cases h1; exact ⟨_, _, rfl, Nat.zero_le _, fun h => by simp [NX.val] at h⟩
    · rename_i h1; cases h1; exact ⟨_, _, rfl, Nat.zero_le _, fun h => by simp [NX.val] at h⟩
    · exact hs.elim
  | ptr _ _ _ _ => simp [seen] at hs
  | i _ _ => simp [seen] at hs
  | b _ => simp [seen] at hs
  | s _ => simp [seen] at hs
  | top => simp [seen] at hs

theorem appendNil_ok (hT : TabOk P T) (h : Sim B O σ M w) {e : TypeId} {te : TI} (he : T e = some te) (hut : P.underlying t = some (.slice e)) {cy : CV} {u : Value} (ty : TypeId) (hu : CR σ cy u) {out : Out} (ho : appendNilO base e te (seen M cy) = out) (hs : out.side)
    (hnew : ∀ ob, out.news[0]? = some ob → M base = some ob) (hfree : σ base = none) :
    ∃ r w' σ', (Builtin.append_ #[t, t] ty #[.slice none 0 0, u]).run P w = .ok r w' ∧ StepOk B O σ (updL M out.upd) out base w r w' σ' := by
  subst ho
  obtain ⟨hsz, hk, hb, hlen, hroom⟩ := hs
  have hsz : 0 < te.size := Nat.le_of_ble_eq_true (isT_iff.1 hsz)
  have hlen : 0 < (seen M cy).len.val := ltN_iff hlen
  obtain ⟨hl47, hbytes⟩ := roomX_iff hroom
  obtain ⟨i0, hi, his, hib, hiz⟩ := hT.info he
  have hzc := hT.zeroCells he
  have hzs : te.zeroV.cells.size = te.size := by rw [hzc]; simpa using (hT e te he).zsize
  obtain ⟨A, cp, rfl, hlm, hc⟩ := seen_ok h hu hb
  obtain ⟨b, o, rfl, hra⟩ := hc hlen
  rw [sizeX_iff hk hlen] at hra
  obtain ⟨vs, hvl, hg, hra', h1⟩ := flat_list _ hra
  have hr := run_append_nil (P := P) w t ty e i0 te.zeroV hut hi hiz ⟨b, o, none⟩ (seen M cy).len.val cp vs (by rw [hvl, his]) (fun j u hu => by rw [Addr.add_lit]; exact hg j u hu) hlen (by omega) (by rw [hib]; omega)
  refine ⟨_, _, _, hr, StepOk.make (w' := w.drew.alloc _) h ⟨rfl, rfl, rfl, by simp, fun k hk => _root_.Go.heap_alloc_old w.drew _ (by simpa using hk)⟩ rfl (hnew _ rfl) hfree ⟨hsz, .inr ⟨w.heap.size, _, _, rfl, _root_.Go.heap_alloc_new w.drew _, grownCap_ge w _ _ _, grownCap_le_maxLen w _ _ _ hlm, ?_, ?_⟩⟩ (fun _ b hb => by simp [blkOf, addrOf] at hb; omega)⟩
  · simp only [Array.size_append, List.size_toArray, size_zeroCells, hzs, hvl, ← Nat.add_mul]
    congr 1
    have := grownCap_ge w (seen M cy).len.val 0 e
    omega
  · refine RowAt.of_list ((hra'.le (Ren.le_set _ hfree))) (fun j u hu => ?_)
    show (vs.toArray ++ _)[j]? = some u
    rw [Array.getElem?_append_left (by simpa using (List.getElem?_eq_some_iff.1 hu).1)]
    simpa using hu

/-- An object is used up, its block goes over to a new one (or a new block is made). -/
theorem Sim.move (h : Sim B O σ M w) {w' : World} {i j : Nat} {oi oj : Ob} {hv hv' : Value} (hσ : σ i = some hv) (hMi : M i = some oi) (hoi : oi.own = true) (hMj : M j = some oj) (hfree : σ j = none)
    (hk : ∀ k, k < w.heap.size → (∀ b, blkOf hv = some b → k ≠ b) → w'.heap[k]? = w.heap[k]?) (hsz : w.heap.size ≤ w'.heap.size) (hr : ObRel (σ.set j hv') w' oj hv') (hblk : ∀ b, blkOf hv' = some b → blkOf hv = some b ∨ w.heap.size ≤ b) (hoj : oj.own = true) :
    Sim B O (σ.set j hv') (updM M i .dead) w' := by
  have hij : j ≠ i := fun e => by subst e; rw [hσ] at hfree; cases hfree
  have hle := Ren.le_set hv' hfree
  have hocci := Ob.occ_of_own hoi
  refine ⟨fun l u hl => ?_, fun l m hl hm ol om b hne sl sm ml mm ho hocc bl bm => ?_, fun l u ol b sl ml ho bl => ?_, Nat.le_trans h.size hsz⟩
  · by_cases e : l = j
    · subst e
      rw [Ren.set_same] at hl
      cases hl
      exact ⟨oj, by rw [updM_other _ _ hij]; exact hMj, hr⟩
    · rw [Ren.set_other _ _ e] at hl
      by_cases e' : l = i
      · subst e'; exact ⟨.dead, updM_same _ _ _, trivial⟩
      · obtain ⟨o, h1, h2⟩ := h.ob l u hl
        refine ⟨o, by rw [updM_other _ _ e']; exact h1, (h2.keep fun hocc b hb => hk b (h2.lt hocc hb) fun b' hb' e'' => ?_).le hle⟩
        subst e''
        exact h.sep i l hv u oi o b (fun e => e' e.symm) hσ hl hMi h1 hoi hocc hb' hb
  · by_cases el : l = j
    · subst el
      have em : m ≠ l := fun e => hne e.symm
      rw [Ren.set_same] at sl
      cases sl
      rw [Ren.set_other _ _ em] at sm
      by_cases em' : m = i
      · subst em'; rw [updM_same] at mm; cases mm; exact hocc.elim
      · rw [updM_other _ _ em'] at mm
        obtain ⟨o, h1, h2⟩ := h.ob m hm sm
        rw [mm] at h1
        cases h1
        have hlt := h2.lt hocc bm
        rcases hblk b bl with hb | hb
        · exact h.sep i m hv hm oi om b (fun e => em' e.symm) hσ sm hMi mm hoi hocc hb bm
        · omega
    · rw [Ren.set_other _ _ el] at sl
      by_cases el' : l = i
      · subst el'; rw [updM_same] at ml; cases ml; simp [Ob.own] at ho
      · rw [updM_other _ _ el'] at ml
        by_cases em : m = j
        · subst em
          rw [Ren.set_same] at sm
          cases sm
          obtain ⟨o, h1, h2⟩ := h.ob l hl sl
          rw [ml] at h1
          cases h1
          have hlt := h2.lt (Ob.occ_of_own ho) bl
          rcases hblk b bm with hb | hb
          · exact h.sep l i hl hv ol oi b el' sl hσ ml hMi ho hocci bl hb
          · omega
        · rw [Ren.set_other _ _ em] at sm
          by_cases em' : m = i
          · subst em'; rw [updM_same] at mm; cases mm; exact hocc.elim
          · rw [updM_other _ _ em'] at mm
            exact h.sep l m hl hm ol om b hne sl sm ml mm ho hocc bl bm
  · by_cases e : l = j
    · subst e
      rw [Ren.set_same] at sl
      cases sl
      rcases hblk b bl with hb | hb
      · exact h.own i hv oi b hσ hMi hoi hb
      · exact .inl (Nat.le_trans h.size hb)
    · rw [Ren.set_other _ _ e] at sl
      by_cases e' : l = i
      · subst e'; rw [updM_same] at ml; cases ml; simp [Ob.own] at ho
      · rw [updM_other _ _ e'] at ml
        exact h.own l u ol b sl ml ho bl

theorem appendOwn_ok (hT : TabOk P T) (h : Sim B O σ M w) {e : TypeId} {te : TI} (he : T e = some te) (hut : P.underlying t = some (.slice e)) {cy : CV} {v u : Value} (ty : TypeId) (hu : CR σ cy u) {i : Nat} {e' : TypeId} {k : Nat} {len : NX} {get : Nat → List CV}
    (hσ : σ i = some v) (hM : M i = some (.row .own e' k len get)) {out : Out} (ho : appendOwnO base e te (seen M cy) i e' k len get = out) (hs : out.side)
    (hnew : ∀ ob, out.news[0]? = some ob → M base = some ob) (hfree : σ base = none) :
    ∃ r w' σ', (Builtin.append_ #[t, t] ty #[v, u]).run P w = .ok r w' ∧ StepOk B O σ (updL M out.upd) out base w r w' σ' := by
  subst ho
  obtain ⟨hsz, hee, hkk, hk, hb, hroom⟩ := hs
  have hsz : 0 < te.size := Nat.le_of_ble_eq_true (isT_iff.1 hsz)
  obtain rfl := Nat.eq_of_beq_eq_true (isT_iff.1 hee)
  obtain rfl := Nat.eq_of_beq_eq_true (isT_iff.1 hkk)
  obtain ⟨hl47, hbytes⟩ := roomX_iff hroom
  rw [NX.add_val] at hl47 hbytes
  obtain ⟨i0, hi, his, hib, hiz⟩ := hT.info he
  have hzc := hT.zeroCells he
  have hzs : te.zeroV.cells.size = te.size := by rw [hzc]; simpa using (hT e' te he).zsize
  obtain ⟨ob, hM', hrel⟩ := h.ob i v hσ
  rw [hM] at hM'
  cases hM'
  have hMb := hnew _ rfl
  obtain ⟨A, cp, rfl, hlm, hc⟩ := seen_ok h hu hb
  have hsrc : ∃ vs : List Value, vs.length = (seen M cy).len.val * te.size ∧ (∀ v ∈ vs, v.oneCell' = true) ∧ RowAt σ (fun n => vs[n]?) te.size (seen M cy).len.val (seen M cy).get ∧
      (0 < (seen M cy).len.val → ∃ a, A = some a ∧ ∀ j u, vs[j]? = some u → w.cell? (a.add j) = some u) := by
    rcases Nat.eq_zero_or_pos (seen M cy).len.val with h0 | h0
    · exact ⟨[], by simp [h0], fun v hv => by simp at hv, fun e he => by omega, fun h => by omega⟩
    · obtain ⟨b, o, rfl, hra⟩ := hc h0
      rw [sizeX_iff hk h0] at hra
      obtain ⟨vs, hvl, hg, hra', h1⟩ := flat_list _ hra
      exact ⟨vs, hvl, h1, hra', fun _ => ⟨_, rfl, fun j u hu => by rw [Addr.add_lit]; exact hg j u hu⟩⟩
  obtain ⟨vs, hvl, h1v, hra', hcell⟩ := hsrc
  have fin : ∀ (r : Value) (w' : World), (Builtin.append_ #[t, t] ty #[v, .slice A (seen M cy).len.val cp]).run P w = .ok r w' → (∀ k, k < w.heap.size → (∀ b, blkOf v = some b → k ≠ b) → w'.heap[k]? = w.heap[k]?) → w.heap.size ≤ w'.heap.size → w'.os = w.os → w'.tape = w.tape → w'.output = w.output →
      r.oneCell' = true → RowRel (σ.set base r) w' .own e' te.size (len.val + (seen M cy).len.val) (fun n => if n < len.val then get n else (seen M cy).get (n - len.val)) r → (∀ b, blkOf r = some b → blkOf v = some b ∨ w.heap.size ≤ b) →
      ∃ r w' σ', (Builtin.append_ #[t, t] ty #[v, .slice A (seen M cy).len.val cp]).run P w = .ok r w' ∧ StepOk B O σ (updL M (appendOwnO base e' te (seen M cy) i e' te.size len get).upd) (appendOwnO base e' te (seen M cy) i e' te.size len get) base w r w' σ' := by
    intro r w' hr hkp hsz' h1 h2 h3 hone hrel' hblk
    refine ⟨r, w', σ.set base r, hr, Ren.le_set _ hfree, fun l u hl => ?_, ⟨hone, Ren.set_same _ _ _⟩, h.move hσ hM rfl hMb hfree hkp hsz' (show RowRel (σ.set base r) w' .own e' te.size (len.add (seen M cy).len).val (fun n => if n < len.val then get n else (seen M cy).get (n - len.val)) r by rw [NX.add_val]; exact hrel') hblk rfl, h1, h2, h3, hsz', fun b hb hO => ?_⟩
    · by_cases e : l = base
      · subst e; exact .inr ⟨Nat.le_refl _, by simp [appendOwnO]⟩
      · rw [Ren.set_other _ _ e] at hl; exact .inl hl
    · refine hkp b (Nat.lt_of_lt_of_le hb h.size) fun b' hb' e => ?_
      subst e
      rcases h.own i v _ b hσ hM rfl hb' with h | h
      · omega
      · exact hO h
  have hle := Ren.le_set (σ := σ) (i := base)
  have hrel : RowRel σ w .own e' te.size len.val get v := hrel
  generalize hL : len.val = L at fin hrel hl47 hbytes
  obtain ⟨hk0, ⟨rfl, hl0⟩ | ⟨g, cap, cur, rfl, hg, hlc, hcm, hcs, hra⟩⟩ := hrel
  · -- it was nil
    subst hl0
    rcases Nat.eq_zero_or_pos (seen M cy).len.val with h0 | h0
    · refine fin (.slice none 0 0) w ?_ (fun _ _ _ => rfl) (Nat.le_refl _) rfl rfl rfl rfl ⟨hk0, .inl ⟨rfl, by omega⟩⟩ (fun b hb => by simp [blkOf, addrOf] at hb)
      rw [h0]
      cases A with
      | none => simp [Builtin.append_, run_underlying hut, sizeOf, typeInfo, hi, Builtin.lenOf, Builtin.firstCells]
      | some a => simp [Builtin.append_, run_underlying hut, sizeOf, typeInfo, hi, Builtin.lenOf, Builtin.firstCells, loadCells, loadCellsFrom]
    · obtain ⟨a, rfl, hcl⟩ := hcell h0
      have hr := run_append_nil (P := P) w t ty e' i0 te.zeroV hut hi hiz a (seen M cy).len.val cp vs (by rw [hvl, his]) hcl h0 (by omega) (by rw [hib]; simp at hbytes; omega)
      refine fin _ _ hr (fun k hk _ => _root_.Go.heap_alloc_old w.drew _ (by simpa using hk)) (by simp) rfl rfl rfl rfl ⟨hk0, .inr ⟨w.heap.size, _, _, by rw [Nat.zero_add], _root_.Go.heap_alloc_new w.drew _, by rw [Nat.zero_add]; exact grownCap_ge w _ _ _, grownCap_le_maxLen w _ _ _ hlm, ?_, ?_⟩⟩ (fun b hb => by simp [blkOf, addrOf] at hb; omega)
      · simp only [Array.size_append, List.size_toArray, size_zeroCells, hzs, hvl, ← Nat.add_mul]
        congr 1
        have := grownCap_ge w (seen M cy).len.val 0 e'
        omega
      · rw [Nat.zero_add]
        have h2 : RowAt (σ.set base (.slice (some ⟨w.heap.size, 0, none⟩) (seen M cy).len.val (grownCap w (seen M cy).len.val 0 e'))) (fun n => vs[n]?) te.size (seen M cy).len.val (fun n => if n < 0 then get n else (seen M cy).get (n - 0)) := by
          simpa using hra'.le (hle _ hfree)
        refine h2.of_list (fun j u hu => ?_)
        show (vs.toArray ++ _)[j]? = some u
        rw [Array.getElem?_append_left (by simpa using (List.getElem?_eq_some_iff.1 hu).1)]
        simpa using hu
  · have hcl : (cur.toList.take (L * te.size)).length = L * te.size := by
      have : L * te.size ≤ cap * te.size := Nat.mul_le_mul_right _ hlc
      simp; omega
    have hold : RowAt σ (fun n => (cur.toList.take (L * te.size))[n]?) te.size L get := fun e he => ⟨(hra e he).1, fun j c hj => by
      obtain ⟨v, hv, hcr⟩ := (hra e he).2 j c hj
      have hjk : j < te.size := by
        have := (hra e he).1
        rcases Nat.lt_or_ge j te.size with h | h
        · exact h
        · rw [List.getElem?_eq_none (by omega)] at hj; cases hj
      have : (e + 1) * te.size ≤ L * te.size := Nat.mul_le_mul_right _ he
      rw [Nat.add_mul, Nat.one_mul] at this
      exact ⟨v, by show (cur.toList.take _)[e * te.size + j]? = _; rw [List.getElem?_take_of_lt (by omega)]; simpa using hv, hcr⟩⟩
    have hboth := (RowAt.append hcl hold hra')
    by_cases hroom : L + (seen M cy).len.val ≤ cap
    · -- there is room
      have hfit : L * te.size + vs.length ≤ cur.size := by rw [hvl, hcs, ← Nat.add_mul]; exact Nat.mul_le_mul_right _ hroom
      rcases Nat.eq_zero_or_pos (seen M cy).len.val with h0 | h0
      · have hv0 : vs = [] := List.eq_nil_of_length_eq_zero (by rw [hvl, h0]; simp)
        refine fin (.slice (some ⟨g, 0, none⟩) (L + (seen M cy).len.val) cap) w ?_ (fun _ _ _ => rfl) (Nat.le_refl _) rfl rfl rfl rfl ⟨hk0, .inr ⟨g, cap, cur, rfl, hg, hroom, hcm, hcs, ?_⟩⟩ (fun b hb => .inl hb)
        · rw [h0]
          cases A with
          | none => simp [Builtin.append_, run_underlying hut, sizeOf, typeInfo, hi, Builtin.lenOf, Builtin.firstCells, hlc, storeCells]
          | some a => simp [Builtin.append_, run_underlying hut, sizeOf, typeInfo, hi, Builtin.lenOf, Builtin.firstCells, loadCells, loadCellsFrom, hlc, storeCells]
        · subst hv0
          refine (hboth.le (hle _ hfree)).of_list (fun j u hu => ?_)
          rw [List.append_nil, List.getElem?_take] at hu
          split at hu
          · simpa using hu
          · cases hu
      · obtain ⟨a, rfl, hcl'⟩ := hcell h0
        have hr := run_append_room (P := P) w t ty e' i0 hut hi g L cap cur hg a (seen M cy).len.val cp vs (by rw [hvl, his]) hcl' h1v hroom (by rw [his]; exact hfit)
        rw [his] at hr
        refine fin _ _ hr (fun k hk hne => setRow_other w g k _ (fun e => hne g rfl e)) (by simp [World.setRow]) rfl rfl rfl rfl ⟨hk0, .inr ⟨g, cap, _, rfl, setRow_heap w g cur _ e' _ hg, hroom, hcm, ?_, ?_⟩⟩ (fun b hb => .inl hb)
        · simp only [List.size_toArray, List.length_append, List.length_take, List.length_drop, Array.length_toList]
          omega
        · refine (hboth.le (hle _ hfree)).of_list (fun j u hu => ?_)
          show (List.toArray _)[j]? = some u
          rw [List.getElem?_toArray, List.getElem?_append_left]
          · exact hu
          · exact (List.getElem?_eq_some_iff.1 hu).1
    · -- it grows
      have h0 : 0 < (seen M cy).len.val := by omega
      obtain ⟨a, rfl, hcl'⟩ := hcell h0
      have hr := run_append_grow (P := P) w t ty e' i0 te.zeroV hut hi hiz ⟨g, 0, none⟩ L cap (cur.toList.take (L * te.size)) (by rw [hcl, his]) (fun j v hj => by
          rw [Addr.add_lit, cell_of_row w g _ cur e' _ hg, Nat.zero_add]
          rw [List.getElem?_take] at hj
          split at hj
          · simpa using hj
          · cases hj) a (seen M cy).len.val cp vs (by rw [hvl, his]) hcl' (by omega) (by omega) (by rw [hib]; exact growslice_fits (by omega) hbytes)
      have hge := grownCap_ge w (L + (seen M cy).len.val) cap e'
      refine fin _ _ hr (fun k hk _ => _root_.Go.heap_alloc_old w.drew _ (by simpa using hk)) (by simp) rfl rfl rfl rfl ⟨hk0, .inr ⟨w.heap.size, _, _, rfl, _root_.Go.heap_alloc_new w.drew _, hge, grownCap_le_maxLen w _ _ _ (by simp only [maxLen]; omega), ?_, ?_⟩⟩ (fun b hb => by simp [blkOf, addrOf] at hb; omega)
      · simp only [Array.size_append, List.size_toArray, size_zeroCells, hzs, hvl, hcl, ← Nat.add_mul]
        congr 1
        omega
      · refine (hboth.le (hle _ hfree)).of_list (fun j u hu => ?_)
        show (_ ++ _ : Array Value)[j]? = some u
        have hlt := (List.getElem?_eq_some_iff.1 hu).1
        rw [Array.getElem?_append_left (by simpa using hlt)]
        simpa using hu

theorem append_ok (hT : TabOk P T) (h : Sim B O σ M w) {x y : IV} {v u : Value} (ty : TypeId) (hv : IR σ x v) (hu : IR σ y u) {out : Out} (ho : appendI T M base t x y = out) (hs : out.side)
    (hnew : ∀ ob, out.news[0]? = some ob → M base = some ob) (hfree : out.news ≠ [] → σ base = none) :
    ∃ r w' σ', (Builtin.append_ #[t, t] ty #[v, u]).run P w = .ok r w' ∧ StepOk B O σ (updL M out.upd) out base w r w' σ' := by
  unfold appendI at ho
  split at ho
  · rename_i ti cx cy ht
    split at ho
    · rename_i e hkd
      split at ho
      · rename_i te he
        have hut := hT.slice ht hkd
        split at ho
        · have hvn : v = .slice none 0 0 := hv.2
          subst hvn
          exact appendNil_ok hT h he hut ty hu ho hs hnew (hfree (by rw [← ho]; simp [appendNilO]))
        · split at ho
          · rename_i i e' k len get hM
            exact appendOwn_ok hT h he hut ty hu hv.2 hM ho hs hnew (hfree (by rw [← ho]; simp [appendOwnO]))
          · subst ho; exact hs.elim
        · subst ho; exact hs.elim
      · subst ho; exact hs.elim
    · subst ho; exact hs.elim
  · subst ho; exact hs.elim
end prims
end Go.Proofs.YthgllnnlngihoaaGreat.Sx
end
