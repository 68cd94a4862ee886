/- .. what is computed, built, cut, converted; .. rows that are made, addresses, cuts; .. conversions, parts, lengths; .. conversions; What an operation looks at is all that it asks of memory; An operation runs as it is meant. -/
import Derived.Laws.IdiomStrings
import Derived.Laws.BytesArg
import Derived.Test.YthgllnnlngihoaaGreatSz01
section
set_option linter.unusedVariables false
set_option linter.unusedSimpArgs false
namespace Go.Proofs.YthgllnnlngihoaaGreat.Sx
open Go.RowKit

theorem wrap_fits {k : IntKind} {n : Int} (h : fitsK k n) : k.wrap n = n := by
  cases k <;> simp only [fitsK] at h <;> first | exact h.elim | skip
  · simp [IntKind.wrap, IntKind.bits, IntKind.signed]; omega
  · exact IntWalk.i64_in n h
  · simp [IntKind.wrap, IntKind.bits, IntKind.signed]; omega
  · simp [IntKind.wrap, IntKind.bits, IntKind.signed]; omega

theorem or_small : ∀ a, a < 8 → ∀ b, b < 8 → IntKind.i64.wrap ((BitVec.ofInt IntKind.i64.bits (a : Nat) ||| BitVec.ofInt IntKind.i64.bits (b : Nat)).toNat : Int) = ((a ||| b : Nat) : Int) := by decide +kernel

section prims
variable {P : Program} {T : Tab} {B : Nat} {O : Nat → Prop} {σ : Ren} {M : Mem} {w : World} {base : Nat} {t : TypeId} {ti : TI}

theorem bool_r (b : Bool) (x : BX) (h : x.val = b) : IR σ (cbool x) (.bool b) := h ▸ IR_cbool x
theorem arith_ok {op : BinOp} {k : IntKind} {a b : IX} (hs : (arith op k a b).side) (hsh : op ≠ .shl) (hsr : op ≠ .shr) :
    ∃ r, (binOp op t (.int k a.val) (.int k b.val)).run P w = .ok r w ∧ IR σ (arith op k a b).r r := by
  cases op <;> simp only [arith, bad, gives] at hs ⊢ <;> first | exact hs.elim | exact absurd rfl hsh | exact absurd rfl hsr | skip
  case add =>
    have hs := fitsX_iff hs
    rw [IX.add_val] at hs
    exact ⟨.int k (a.val + b.val), by simp [binOp, Op.intArith, wrap_fits hs], by have := IR_cint (σ := σ) k (a.add b); rwa [IX.add_val] at this⟩
  case sub =>
    have hs := fitsX_iff hs
    rw [IX.sub_val] at hs
    exact ⟨.int k (a.val - b.val), by simp [binOp, Op.intArith, wrap_fits hs], by have := IR_cint (σ := σ) k (a.sub b); rwa [IX.sub_val] at this⟩
  case mul => exact ⟨.int k (a.val * b.val), by simp [binOp, Op.intArith, wrap_fits hs.ok], IR_cint _ _⟩
  case quo => exact ⟨.int k (a.val.tdiv b.val), by simp [binOp, Op.intDiv, hs.ok.1, wrap_fits hs.ok.2], IR_cint _ _⟩
  case rem => exact ⟨.int k (a.val.tmod b.val), by simp [binOp, Op.intDiv, hs.ok], IR_cint _ _⟩
  case or =>
    obtain ⟨hk, hs⟩ := hs
    obtain rfl := eqK_iff (isT_iff.1 hk)
    obtain ⟨a0, a7, b0, b7⟩ := hs.ok
    generalize a.val = a at *
    generalize b.val = b at *
    obtain ⟨m, rfl⟩ := Int.eq_ofNat_of_zero_le a0
    obtain ⟨n, rfl⟩ := Int.eq_ofNat_of_zero_le b0
    refine ⟨.int .i64 ((m ||| n : Nat) : Int), ?_, IR_cint .i64 _⟩
    have h := or_small m (by omega) n (by omega)
    show (Op.intBits .or .i64 (m : Int) (n : Int)).run P w = _
    unfold Op.intBits
    simp only [Sem.run_pure]
    rw [h]
  case eql => exact ⟨.bool (decide (a.val = b.val)), by simp [binOp, Op.intCmp]; exact (Bool.beq_eq_decide_eq _ _), bool_r _ _ (eqX_val a b)⟩
  case neq => exact ⟨.bool (!decide (a.val = b.val)), by simp [binOp, Op.intCmp, bne, Bool.beq_eq_decide_eq], bool_r _ _ (by rw [BX.not_val, eqX_val])⟩
  case lss => exact ⟨.bool (decide (a.val < b.val)), by simp [binOp, Op.intCmp], bool_r _ _ (ltX_val a b)⟩
  case leq => exact ⟨.bool (decide (a.val ≤ b.val)), by simp [binOp, Op.intCmp], bool_r _ _ (leX_val a b)⟩
  case gtr => exact ⟨.bool (decide (b.val < a.val)), by simp [binOp, Op.intCmp], bool_r _ _ (ltX_val b a)⟩
  case geq => exact ⟨.bool (decide (b.val ≤ a.val)), by simp [binOp, Op.intCmp], bool_r _ _ (leX_val b a)⟩

/-- '==' of structs whose cells are numbers, as the table says. -/
def EqOk (P : Program) (E : EqTab) : Prop := ∀ t n, E t = some n → ∀ (xs ys : List Int) (x y : Operand) (w : World), xs.length = n → ys.length = n →
  (do eqGuard .eql t x y (.agg (xs.map (Value.int .i64)).toArray) (.agg (ys.map (Value.int .i64)).toArray); binOp .eql t (.agg (xs.map (Value.int .i64)).toArray) (.agg (ys.map (Value.int .i64)).toArray) : Sem Value).run P w = .ok (.bool (xs == ys)) w ∧
  (do eqGuard .neq t x y (.agg (xs.map (Value.int .i64)).toArray) (.agg (ys.map (Value.int .i64)).toArray); binOp .neq t (.agg (xs.map (Value.int .i64)).toArray) (.agg (ys.map (Value.int .i64)).toArray) : Sem Value).run P w = .ok (.bool (!(xs == ys))) w

theorem ints_of : ∀ {l : List CV} {vs : List Value} {xs : List IX}, intsOf l = some xs → All2 (CR σ) l vs → vs = (xs.map IX.val).map (Value.int .i64)
  | [], [], xs, h, _ => by simp [intsOf] at h; subst h; rfl
  | [], _ :: _, _, _, h => h.elim
  | _ :: _, [], _, _, h => h.elim
  | c :: l, v :: vs, xs, hi, ha => by
    unfold intsOf at hi
    split at hi
    · rename_i he; cases he
    · rename_i x r he
      cases he
      split at hi
      · rename_i l' hl'
        cases hi
        have := ints_of hl' ha.2
        have hv : v = .int .i64 x.val := ha.1.2
        subst hv
        simp [this]
      · cases hi
    · cases hi
theorem sameX_val : ∀ (xs ys : List IX), (sameX xs ys).val = (xs.map IX.val == ys.map IX.val)
  | [], [] => rfl
  | [], _ :: _ => rfl
  | _ :: _, [] => rfl
  | x :: xs, y :: ys => by
    have ih := sameX_val xs ys
    simp only [sameX, BX.and_val, eqX_val, ih, List.map_cons]
    rw [List.cons_beq_cons]
    rfl

theorem kindIs_bool (hT : TabOk P T) (h : kindIs T t .bool) : P.underlying t = some .bool := by
  unfold kindIs at h
  cases ht : T t with
  | none => simp only [ht] at h
  | some ti =>
    simp only [ht] at h
    obtain ⟨d, hd, hk⟩ := hT.und ht
    rw [h] at hk
    cases d <;> simp [TK.of] at hk
    exact hd
theorem isSliceT_slice (hT : TabOk P T) (h : isSliceT T t) : ∃ e, P.underlying t = some (.slice e) := by
  unfold isSliceT at h
  cases ht : T t with
  | none => simp only [ht] at h
  | some ti =>
    simp only [ht] at h
    split at h
    · rename_i e hk; exact ⟨e, hT.slice ht hk⟩
    · exact h.elim

theorem eqO_ok {op : BinOp} {u v : Value} {ox oy : Operand} {side : Prop} {b : BX} {reads : List Nat} {out : Out} (ho : eqO op side b reads = out) (hs : out.side)
    (h : side → (do eqGuard .eql t ox oy u v; binOp .eql t u v : Sem Value).run P w = .ok (.bool b.val) w ∧ (do eqGuard .neq t ox oy u v; binOp .neq t u v : Sem Value).run P w = .ok (.bool (!b.val)) w) :
    ∃ r, (do eqGuard op t ox oy u v; binOp op t u v : Sem Value).run P w = .ok r w ∧ IR σ out.r r ∧ out.news = [] ∧ out.upd = [] := by
  unfold eqO at ho
  split at ho
  · subst ho; exact ⟨_, (h hs).1, IR_cbool _, rfl, rfl⟩
  · subst ho; exact ⟨_, (h hs).2, bool_r _ _ (BX.not_val b), rfl, rfl⟩
  · subst ho; exact hs.elim

theorem guard0 (op : BinOp) (ox oy : Operand) (a b : Value) (h1 : ∀ cs, a ≠ .agg cs) (h2 : a ≠ .nilIface) : (eqGuard op t ox oy a b).run P w = .ok () w := by
  unfold eqGuard
  cases op <;> simp <;> (cases a <;> simp_all)

theorem eqIn_slice_nil (d : Nat) {e : TypeId} (w : World) (h : P.underlying t = some (.slice e)) : (Op.equalIn (d + 1) t (.slice none 0 0) (.slice none 0 0)).run P w = .ok true w := by
  simp [Op.equalIn, run_underlying h]
theorem eqIn_slice_none (d : Nat) {e : TypeId} {n c : Nat} (w : World) (h : P.underlying t = some (.slice e)) : (Op.equalIn (d + 1) t (.slice none n c) (.slice none 0 0)).run P w = .ok true w := by
  simp [Op.equalIn, run_underlying h]
theorem eqIn_slice_some (d : Nat) {e : TypeId} (w : World) {a : Addr} {n c : Nat} (h : P.underlying t = some (.slice e)) : (Op.equalIn (d + 1) t (.slice (some a) n c) (.slice none 0 0)).run P w = .ok false w := by
  simp [Op.equalIn, run_underlying h]
theorem eqSlice_nil {e : TypeId} (w : World) (h : P.underlying t = some (.slice e)) : (Op.equal t (.slice none 0 0) (.slice none 0 0)).run P w = .ok true w := eqIn_slice_nil 9999 w h
theorem eqSlice_some {e : TypeId} (w : World) {a : Addr} {n c : Nat} (h : P.underlying t = some (.slice e)) : (Op.equal t (.slice (some a) n c) (.slice none 0 0)).run P w = .ok false w := eqIn_slice_some 9999 w h

theorem binOp_ok (hT : TabOk P T) (E : EqTab) (hE : EqOk P E) (h : Sim B O σ M w) {op : BinOp} {x y : IV} {u v : Value} (ox oy : Operand) (hx : IR σ x u) (hy : IR σ y v) {out : Out} (ho : binI T E M op t x y = out) (hs : out.side) :
    ∃ r, (do eqGuard op t ox oy u v; binOp op t u v : Sem Value).run P w = .ok r w ∧ IR σ out.r r ∧ out.news = [] ∧ out.upd = [] := by
  unfold binI at ho
  split at ho
  · rename_i k a k' b
    have hu : u = .int k a.val := hx.2
    have hv : v = .int k' b.val := hy.2
    subst hu hv
    have hg := guard0 (P := P) (w := w) (t := t) op ox oy (.int k a.val) (.int k' b.val) (by simp) (by simp)
    unfold arithO at ho
    split at ho
    · subst ho
      obtain ⟨hk, hs⟩ := hs
      obtain rfl := eqK_iff (isT_iff.1 hk)
      obtain ⟨ha, b0, b2⟩ := hs.ok
      refine ⟨.int .i64 (2 ^ b.val.toNat), ?_, IR_cint _ (.sy fun _ => 2 ^ b.val.toNat), rfl, rfl⟩
      have : b.val = 0 ∨ b.val = 1 ∨ b.val = 2 := by omega
      rw [Sem.run_bind, hg, ha]
      rcases this with h | h | h <;> rw [h] <;> simp [binOp, Op.shift, IntKind.bits, IntKind.wrap, IntKind.signed]
    · subst ho; exact hs.elim
    · rename_i hn1 hn2
      subst ho
      obtain ⟨hk, hs⟩ := hs
      obtain rfl := eqK_iff (isT_iff.1 hk)
      obtain ⟨r, h1, h2⟩ := arith_ok (P := P) (w := w) (σ := σ) (t := t) (op := op) (k := k) (a := a) (b := b) hs (by intro e; exact hn1 e) (by intro e; exact hn2 e)
      exact ⟨r, by rw [Sem.run_bind, hg]; exact h1, h2, rfl, rfl⟩
  · rename_i a b
    have hu : u = .bool a.val := hx.2
    have hv : v = .bool b.val := hy.2
    subst hu hv
    refine eqO_ok ho hs fun hk => ?_
    rw [eqB2_val]
    have hb := kindIs_bool hT hk
    have he : ∀ w, (Op.equal t (.bool a.val) (.bool b.val)).run P w = .ok (a.val == b.val) w := fun w => run_equalIn_bool' w 9999 t a.val b.val hb
    constructor
    · rw [Sem.run_bind, guard0 .eql ox oy _ _ (by simp) (by simp)]
      simp [binOp, he]
    · rw [Sem.run_bind, guard0 .neq ox oy _ _ (by simp) (by simp)]
      simp [binOp, he]
  · rename_i a b
    have hu : u = .string (a ()) := hx.2
    have hv : v = .string (b ()) := hy.2
    subst hu hv
    refine eqO_ok ho hs fun hk => ⟨?_, ?_⟩
    · rw [Sem.run_bind, guard0 .eql ox oy _ _ (by simp) (by simp)]
      show _ = Result.ok (Value.bool (eqS (a ()) (b ()))) w
      unfold eqS
      rw [beq_toListBytes]
      simp [binOp, Op.stringOp]
    · rw [Sem.run_bind, guard0 .neq ox oy _ _ (by simp) (by simp)]
      show _ = Result.ok (Value.bool (!eqS (a ()) (b ()))) w
      unfold eqS
      rw [beq_toListBytes]
      simp [binOp, Op.stringOp]
  · rename_i l m
    obtain ⟨vs, rfl, ha⟩ := hx
    obtain ⟨ws, rfl, hb⟩ := hy
    unfold eqAggO at ho
    split at ho
    · rename_i xs ys h3 h4
      split at ho
      · rename_i n hn
        refine eqO_ok ho hs fun ⟨h1, h2⟩ => ?_
        have h1 := Nat.eq_of_beq_eq_true (isT_iff.1 h1)
        have h2 := Nat.eq_of_beq_eq_true (isT_iff.1 h2)
        rw [ints_of h3 ha, ints_of h4 hb, sameX_val]
        exact hE t _ hn (xs.map IX.val) (ys.map IX.val) ox oy w (by simp [← h1]) (by simp [← h2])
      · subst ho; exact hs.elim
    · subst ho; exact hs.elim
  · rename_i n c
    have hu : u = .slice none n c := hx.2
    have hv : v = .slice none 0 0 := hy.2
    subst hu hv
    refine eqO_ok ho hs fun hk => ?_
    obtain ⟨e, hb⟩ := isSliceT_slice hT hk
    have he : ∀ w, (Op.equal t (.slice none n c) (.slice none 0 0)).run P w = .ok true w := fun w => eqIn_slice_none 9999 w hb
    constructor
    · rw [Sem.run_bind, guard0 .eql ox oy _ _ (by simp) (by simp)]
      simp [binOp, he, BX.val]
    · rw [Sem.run_bind, guard0 .neq ox oy _ _ (by simp) (by simp)]
      simp [binOp, he, BX.val]
  · rename_i ad n c
    have hu : u = .slice (some ad) n c := hx.2
    have hv : v = .slice none 0 0 := hy.2
    subst hu hv
    refine eqO_ok ho hs fun hk => ?_
    obtain ⟨e, hb⟩ := isSliceT_slice hT hk
    have he : ∀ w, (Op.equal t (.slice (some ad) n c) (.slice none 0 0)).run P w = .ok false w := fun w => eqSlice_some w hb
    constructor
    · rw [Sem.run_bind, guard0 .eql ox oy _ _ (by simp) (by simp)]
      simp [binOp, he, BX.val]
    · rw [Sem.run_bind, guard0 .neq ox oy _ _ (by simp) (by simp)]
      simp [binOp, he, BX.val]
  · rename_i i
    split at ho
    · rename_i md tt k len get hM
      have hv : v = .slice none 0 0 := hy.2
      subst hv
      refine eqO_ok ho hs fun ⟨hk, hl⟩ => ?_
      obtain ⟨e, hb⟩ := isSliceT_slice hT hk
      obtain ⟨ob, hM', hr⟩ := h.ob i u hx.2
      rw [hM] at hM'
      cases hM'
      have key : ∃ ad n c, u = .slice (some ad) n c := by
        have hl' : md ≠ .mk → 0 < len.val := fun hne => by
          cases md with
          | mk => exact (hne rfl).elim
          | own => exact ltN_iff (a := .lit 0) (show ltN (.lit 0) len from hl)
          | ro => exact ltN_iff (a := .lit 0) (show ltN (.lit 0) len from hl)
        cases md with
        | own =>
          obtain ⟨_, ⟨_, h0⟩ | ⟨g, cap, cur, rfl, _⟩⟩ := hr
          · have := hl' (by simp); omega
          · exact ⟨_, _, _, rfl⟩
        | mk => obtain ⟨_, g, cap, cur, fr, rfl, _⟩ := hr; exact ⟨_, _, _, rfl⟩
        | ro =>
          obtain ⟨A, c, rfl, _, _, _, h4⟩ := hr
          obtain ⟨b, o, rfl, _⟩ := h4 (hl' (by simp))
          exact ⟨_, _, _, rfl⟩
      obtain ⟨ad, n, c, rfl⟩ := key
      have he : ∀ w, (Op.equal t (.slice (some ad) n c) (.slice none 0 0)).run P w = .ok false w := fun w => eqSlice_some w hb
      constructor
      · rw [Sem.run_bind, guard0 .eql ox oy _ _ (by simp) (by simp)]
        simp [binOp, he, BX.val]
      · rw [Sem.run_bind, guard0 .neq ox oy _ _ (by simp) (by simp)]
        simp [binOp, he, BX.val]
    · subst ho; exact hs.elim
  · subst ho; exact hs.elim

theorem unOp_ok {op : UnOp} {x : IV} {u : Value} (hx : IR σ x u) {out : Out} (ho : unI op x = out) (hs : out.side) :
    ∃ r, (Op.unary op u).run P w = .ok r w ∧ IR σ out.r r ∧ out.news = [] ∧ out.upd = [] := by
  unfold unI at ho
  split at ho
  · rename_i b
    have hu : u = .bool b.val := hx.2
    subst hu ho
    exact ⟨_, rfl, bool_r _ _ (BX.not_val b), rfl, rfl⟩
  · rename_i k n
    have hu : u = .int k n.val := hx.2
    subst hu ho
    refine ⟨.int k (-n.val), ?_, IR_cint _ (.sy fun _ => -n.val), rfl, rfl⟩
    have := wrap_fits (k := k) (n := -n.val) hs.ok
    simp [Op.unary, Op.intArith, this]
  · subst ho; exact hs.elim

theorem fillsl (off : Nat) : ∀ (vs : List Value) (i : Nat) (arr : Array Value), off + i + vs.length ≤ arr.size →
    ((vs.zipIdx i).foldl (fun cs (p : Value × Nat) => cs.setIfInBounds (off + p.2) p.1) arr).toList = arr.toList.take (off + i) ++ vs ++ arr.toList.drop (off + i + vs.length)
  | [], i, arr, h => by simp
  | v :: vs, i, arr, h => by
    simp only [List.length_cons] at h
    rw [List.zipIdx_cons, List.foldl_cons, fillsl off vs (i + 1) _ (by simp; omega)]
    apply List.ext_getElem?
    intro j
    have hl1 : off + i + (v :: vs).length ≤ arr.toList.length := by simp; omega
    have hl2 : off + (i + 1) + vs.length ≤ (arr.setIfInBounds (off + i) v).toList.length := by simp; omega
    rw [spliced_get _ _ _ _ hl1, spliced_get _ _ _ _ hl2]
    simp only [Array.toList_setIfInBounds, List.getElem?_set, List.length_cons, Array.length_toList]
    by_cases e1 : j < off + i
    · rw [if_pos (show j < off + (i + 1) by omega), if_pos e1, if_neg (show ¬ off + i = j by omega)]
    · by_cases e2 : j = off + i
      · subst e2
        rw [if_pos (show off + i < off + (i + 1) by omega), if_neg e1, if_pos (show off + i < off + i + (vs.length + 1) by omega)]
        simp
        omega
      · rw [if_neg (show ¬ j < off + (i + 1) by omega), if_neg e1]
        by_cases e3 : j < off + (i + 1) + vs.length
        · rw [if_pos e3, if_pos (show j < off + i + (vs.length + 1) by omega)]
          obtain ⟨m, rfl⟩ : ∃ m, j = off + i + 1 + m := ⟨j - (off + i + 1), by omega⟩
          rw [show off + i + 1 + m - (off + (i + 1)) = m by omega, show off + i + 1 + m - (off + i) = m + 1 by omega]
          rfl
        · rw [if_neg e3, if_neg (show ¬ j < off + i + (vs.length + 1) by omega), if_neg (show ¬ off + i = j by omega)]

/-- The parts' values are as their ideal ones. -/
def PartsRel (σ : Ren) : List (Nat × IV) → List (Nat × Value) → Prop := All2 fun p q => p.1 = q.1 ∧ IR σ p.2 q.2

theorem fill_ok {pl : Nat → Option (Nat × Nat)} : ∀ {ps : List (Nat × IV)} {qs : List (Nat × Value)} {cells cs : List CV} {arr : Array Value}, PartsRel σ ps qs → allPlain ps → All2 (CR σ) cells arr.toList → fillI pl cells (partsI ps) = some cs →
    ∃ arr', Instr.fill pl arr qs = some arr' ∧ All2 (CR σ) cs arr'.toList
  | [], [], cells, cs, arr, _, _, ha, hf => by
    simp [partsI, fillI] at hf
    subst hf
    exact ⟨arr, rfl, ha⟩
  | [], _ :: _, _, _, _, h, _, _, _ => h.elim
  | _ :: _, [], _, _, _, h, _, _, _ => h.elim
  | (i, x) :: ps, (i', v) :: qs, cells, cs, arr, hp, hpl, ha, hf => by
    obtain ⟨⟨h1, hx⟩, hp⟩ := hp
    simp only at h1 hx
    subst h1
    obtain ⟨hpx, hpl⟩ := hpl
    simp only at hpx
    simp only [partsI, List.map_cons, fillI] at hf
    cases hpi : pl i with
    | none => simp [hpi] at hf
    | some os =>
      obtain ⟨off, size⟩ := os
      simp only [hpi] at hf
      split at hf
      · rename_i hc
        rw [Bool.and_eq_true] at hc
        have hc : (x.cells.length = size ∧ off + x.cells.length ≤ cells.length) := ⟨Nat.eq_of_beq_eq_true hc.1, Nat.le_of_ble_eq_true hc.2⟩
        have hcx := hx.cells hpx
        have hxl := hcx.length
        have hal := ha.length
        simp only [Array.length_toList] at hxl hal
        have hfl := fillsl off v.cells.toList 0 arr (by simp; omega)
        simp only [Nat.add_zero] at hfl
        obtain ⟨arr', hr, ha'⟩ := fill_ok (arr := v.cells.zipIdx.foldl (fun cs (p : Value × Nat) => cs.setIfInBounds (off + p.2) p.1) arr) hp hpl (by
          have : (v.cells.zipIdx.foldl (fun cs (p : Value × Nat) => cs.setIfInBounds (off + p.2) p.1) arr).toList = arr.toList.take off ++ v.cells.toList ++ arr.toList.drop (off + v.cells.toList.length) := by
            rw [← hfl, ← Array.foldl_toList, Array.toList_zipIdx]
          rw [this]
          exact All2.splice off ha hcx) hf
        refine ⟨arr', ?_, ha'⟩
        simp only [Instr.fill, hpi]
        rw [if_neg (by simp; omega)]
        exact hr
      · cases hf

theorem places_ok (hT : TabOk P T) : ∀ (fs : List Field) (pl : List (Nat × Nat)), placesI T (fs.map fun f => (f.offset, f.type)) = some pl → fs.mapM (fun f => (P.info? f.type).map fun i => (f.offset, i.size)) = some pl
  | [], pl, h => by simp [placesI] at h; subst h; rfl
  | f :: fs, pl, h => by
    simp only [List.map_cons, placesI] at h
    cases hf : T f.type with
    | none => simp [hf] at h
    | some tf =>
      cases hr : placesI T (fs.map fun f => (f.offset, f.type)) with
      | none => simp [hf, hr] at h
      | some l =>
        simp [hf, hr] at h
        subst h
        obtain ⟨i, hi, hs, _⟩ := hT.info hf
        simp [List.mapM_cons, hi, hs, places_ok hT fs l hr]

theorem build_ok (hT : TabOk P T) {ps : List (Nat × IV)} {qs : Array (Nat × Value)} (hp : PartsRel σ ps qs.toList) {out : Out} (ho : buildI T t ps = out) (hs : out.side) :
    ∃ r, (Instr.build t qs).run P w = .ok r w ∧ IR σ out.r r ∧ out.news = [] ∧ out.upd = [] := by
  unfold buildI at ho
  split at ho
  · rename_i ti ht
    obtain ⟨it, hit, his, hib, hiz⟩ := hT.info ht
    have hz := zeroI_rel (σ := σ) (hT t ti ht).zone
    have hzc := hT.zeroCells ht
    have fin : ∀ (o : Option (List CV)) (arr : Array Value), buildO ps o = out → (∀ cs, o = some cs → allPlain ps → ∃ arr', P.built t qs.toList = some arr' ∧ All2 (CR σ) cs arr'.toList) → ∃ r, (Instr.build t qs).run P w = .ok r w ∧ IR σ out.r r ∧ out.news = [] ∧ out.upd = [] := by
      intro o arr ho h
      cases o with
      | none => subst ho; exact hs.elim
      | some cs =>
        subst ho
        obtain ⟨arr', h1, h2⟩ := h cs rfl hs
        exact ⟨_, run_build w t qs arr' h1, ⟨arr'.toList, by simp, h2⟩, rfl, rfl⟩
    split at ho
    · rename_i fs hk
      split at ho
      · rename_i pl hpl
        obtain ⟨gs, hu, rfl⟩ := hT.struct ht hk
        have hm := places_ok hT gs.toList pl hpl
        refine fin _ #[] ho fun cs hcs hpl' => ?_
        obtain ⟨arr', h1, h2⟩ := fill_ok (arr := ti.zero.toArray) hp hpl' (by simpa using hz) hcs
        refine ⟨arr', ?_, h2⟩
        simp only [Program.built, hit, hu, hiz, hm, hzc]
        have : (fun (x : Nat) => pl.toArray[x]?) = fun i => pl[i]? := by funext i; simp
        rw [this]
        exact h1
      · subst ho; exact hs.elim
    · rename_i n e hk
      split at ho
      · rename_i te he
        have hu := hT.array ht hk
        obtain ⟨ie, hie, hies, _⟩ := hT.info he
        refine fin _ #[] ho fun cs hcs hpl' => ?_
        obtain ⟨arr', h1, h2⟩ := fill_ok (arr := ti.zero.toArray) hp hpl' (by simpa using hz) hcs
        refine ⟨arr', ?_, h2⟩
        simp only [Program.built, hit, hu, hiz, hie, hies, hzc]
        exact h1
      · subst ho; exact hs.elim
    · subst ho; exact hs.elim
  · subst ho; exact hs.elim
end prims
end Go.Proofs.YthgllnnlngihoaaGreat.Sx
end
section
set_option linter.unusedVariables false
set_option linter.unusedSimpArgs false
namespace Go.Proofs.YthgllnnlngihoaaGreat.Sx
open Go.RowKit

section prims
variable {P : Program} {T : Tab} {B : Nat} {O : Nat → Prop} {σ : Ren} {M : Mem} {w : World} {base : Nat} {t : TypeId} {ti : TI}

/-- Cells written out, k to an element. -/
theorem RowAt.chunk {cs : List CV} {vs : List Value} {k len : Nat} (ha : All2 (CR σ) cs vs) (hl : cs.length = len * k) : RowAt σ (fun n => vs[n]?) k len (Sx.chunk k cs) := by
  intro e he
  have hm : (e + 1) * k ≤ len * k := Nat.mul_le_mul_right _ he
  rw [Nat.add_mul, Nat.one_mul] at hm
  refine ⟨by simp [Sx.chunk]; omega, fun j c hj => ?_⟩
  simp only [Sx.chunk, List.getElem?_take] at hj
  split at hj
  · rw [List.getElem?_drop] at hj
    exact ha.get _ c hj
  · cases hj

theorem zerosI_rel {te : TI} (h : te.zero.all (·.oneCell') = true) : ∀ n, All2 (CR σ) (zerosI te n) ((List.replicate n te.zero).flatten)
  | 0 => trivial
  | n + 1 => by
    rw [List.replicate_succ, List.flatten_cons]
    exact (zeroI_rel h).append (zerosI_rel h n)
theorem zeros_made (z : List Value) (n : Nat) (hz : 0 < z.length) : ((Array.range (n * z.length)).map (z.toArray[· % z.toArray.size]!)).toList = (List.replicate n z).flatten := by
  have hl : ∀ n, ((List.replicate n z).flatten).length = n * z.length := fun n => by simp [List.length_flatten]
  have hg : ∀ n i, i < n * z.length → ((List.replicate n z).flatten)[i]? = z[i % z.length]? := by
    intro n
    induction n with
    | zero => intro i h; simp at h
    | succ n ih =>
      intro i h
      rw [List.replicate_succ, List.flatten_cons, List.getElem?_append]
      split
      · rename_i h1; rw [Nat.mod_eq_of_lt h1]
      · rename_i h1
        rw [ih (i - z.length) (by rw [Nat.add_mul] at h; omega)]
        congr 1
        rw [Nat.mod_eq_sub_mod (a := i) (by omega)]
  apply List.ext_getElem?
  intro i
  by_cases hi : i < n * z.length
  · rw [hg n i hi]
    have : i % z.length < z.length := Nat.mod_lt _ hz
    simp [hi, this]
  · rw [List.getElem?_eq_none (by simp; omega), List.getElem?_eq_none (by rw [hl]; omega)]

theorem All2.len {α β : Type} {R : α → β → Prop} {l : List α} {m : List β} (h : All2 R l m) : m.length = l.length := h.length.symm

theorem buildSlice_ok (hT : TabOk P T) (h : Sim B O σ M w) {len : Nat} {ps : List (Nat × IV)} {qs : Array (Nat × Value)} (hp : PartsRel σ ps qs.toList) {out : Out} (ho : buildSliceI T base t len ps = out) (hs : out.side)
    (hnew : ∀ ob, out.news[0]? = some ob → M base = some ob) (hfree : out.news ≠ [] → σ base = none) :
    ∃ r w' σ', (Instr.buildSlice t len qs).run P w = .ok r w' ∧ StepOk B O σ (updL M out.upd) out base w r w' σ' := by
  unfold buildSliceI at ho
  split at ho
  · rename_i ti ht
    split at ho
    · rename_i e hk
      split at ho
      · rename_i te he
        cases hf : fillI (fun i => some (i * te.size, te.size)) (zerosI te len) (partsI ps) with
        | none => rw [hf] at ho; subst ho; exact hs.elim
        | some cs =>
          rw [hf] at ho
          subst ho
          obtain ⟨hsz, hcells, hpl⟩ := hs
          have hsz : 0 < te.size := Nat.le_of_ble_eq_true (isT_iff.1 hsz)
          have hcells := Nat.le_of_ble_eq_true (isT_iff.1 hcells)
          have hut := hT.slice ht hk
          obtain ⟨ie, hie, hies, hieb, hiez⟩ := hT.info he
          have hzl := (hT e te he).zsize
          have hzc := hT.zeroCells he
          have hzr := zerosI_rel (σ := σ) (hT e te he).zone len
          obtain ⟨arr', h1, h2⟩ := fill_ok (arr := ((List.replicate len te.zero).flatten).toArray) hp hpl (by simpa using hzr) hf
          -- a fill leaves the length
          have hfl : ∀ (ps : List (Nat × List CV)) (cells cs : List CV), fillI (fun i => some (i * te.size, te.size)) cells ps = some cs → cs.length = cells.length := by
            intro ps
            induction ps with
            | nil => intro cells cs h; simp [fillI] at h; subst h; rfl
            | cons p ps ih =>
              intro cells cs h
              simp only [fillI] at h
              split at h
              · rename_i hc
                rw [Bool.and_eq_true] at hc
                have hc2 := Nat.le_of_ble_eq_true hc.2
                rw [ih _ _ h]
                simp [splice]
                omega
              · cases h
          have hcl := hfl _ _ _ hf
          have hzlen : (zerosI te len).length = len * te.size := by rw [hzr.length, List.length_flatten]; simp [hzl]
          have hlen : arr'.size = len * te.size := by have := h2.length; simp at this; omega
          have hm : len ≤ maxLen := by
            have : len * 1 ≤ len * te.size := Nat.mul_le_mul_left _ hsz
            simp only [maxLen]; omega
          have hmade : (Array.range (len * te.size)).map (te.zero.toArray[· % te.zero.toArray.size]!) = ((List.replicate len te.zero).flatten).toArray := by
            apply Array.ext'
            have := zeros_made te.zero len (by omega)
            rw [hzl] at this
            simpa using this
          have hrun : (Instr.buildSlice t len qs).run P w = .ok (.slice (some ⟨w.heap.size, 0, none⟩) len len) (w.alloc (.cells arr' e)) := by
            have h24 : ¬ (16777216 < len * te.size) := by omega
            unfold Instr.buildSlice
            simp only [Sem.run_bind, run_underlying hut, Result.andThen_ok, hT.sizeOf he]
            rw [if_neg (by simpa using h24)]
            by_cases h0 : len * te.size = 0
            · have hl0 : len = 0 := by rcases Nat.mul_eq_zero.1 h0 with h | h <;> omega
              subst hl0
              simp only [Nat.zero_mul, List.replicate_zero, List.flatten_nil] at h1 ⊢
              have hz : Array.range 0 = #[] := by simp
              simp only [newRow, if_true, Sem.run_bind, Sem.run_pure, Result.andThen_ok, Nat.zero_mul, hz, Array.map_empty, h1, Sem.run_map]
              simp [newObj, Result.andThen]
              try rfl
            · have hz2 : (zeroValue e).run P w = .ok te.zeroV w := hT.zeroValue he w
              simp only [h0, if_false, Sem.run_bind, hz2, Result.andThen_ok, Sem.run_pure, hzc, hmade, h1]
              simp [newRow]
          exact ⟨_, _, _, hrun, row_new (len := .lit len) h hsz hm hlen (show RowAt σ (fun n => arr'[n]?) te.size len (chunk te.size cs) by simpa using RowAt.chunk h2 (show cs.length = len * te.size by rw [hcl, hzlen])) (hnew _ rfl) (hfree (by simp [buildSliceO, makes]))⟩
      · subst ho; exact hs.elim
    · subst ho; exact hs.elim
  · subst ho; exact hs.elim

theorem makeSlice_ok (hT : TabOk P T) (h : Sim B O σ M w) {x y : IV} {u v : Value} (hx : IR σ x u) (hy : IR σ y v) {out : Out} (ho : makeSliceI T base t x y = out) (hs : out.side)
    (hnew : ∀ ob, out.news[0]? = some ob → M base = some ob) (hfree : out.news ≠ [] → σ base = none) :
    ∃ r w' σ', (Instr.makeSlice t u v).run P w = .ok r w' ∧ StepOk B O σ (updL M out.upd) out base w r w' σ' := by
  unfold makeSliceI at ho
  split at ho
  · rename_i ti k n k' m ht
    split at ho
    · rename_i e hk
      split at ho
      · rename_i te he
        subst ho
        obtain ⟨hsz, h0, hrest⟩ := hs
        have hsz : 0 < te.size := Nat.le_of_ble_eq_true (isT_iff.1 hsz)
        have h0 : (0 : Int) ≤ n.val := leI_iff h0
        obtain ⟨hnm, hbytes, h63⟩ := hrest.ok
        have hu : u = .int k n.val := hx.2
        have hv : v = .int k' n.val := hnm ▸ hy.2
        subst hu hv
        have hnv := IX.toNX_val n
        generalize n.val = nv at *
        obtain ⟨m, rfl⟩ := Int.eq_ofNat_of_zero_le h0
        rw [Int.toNat_natCast] at hnv
        have hut := hT.slice ht hk
        obtain ⟨ie, hie, hies, hieb, hiez⟩ := hT.info he
        have hzl := (hT e te he).zsize
        have hzc := hT.zeroCells he
        have hm : m ≤ maxLen := by simp only [maxLen]; omega
        have hb47 : ((te.bytes * m : Nat) : Int) ≤ 140737488355328 := by simpa using hbytes
        have hb48 : te.bytes * m ≤ 281474976710656 := by omega
        obtain ⟨w', hr, hown, hg⟩ := run_make_full (P := P) w 0 t e ie te.zeroV te.size hut hie hiez hies k k' m (by rw [hieb]; exact hb48) hm (Nat.zero_le _)
        refine ⟨_, w', σ.set base (.slice (some ⟨w.heap.size, 0, none⟩) m m), hr, ?_⟩
        have hb : Below w.heap.size w w' := ⟨hg.os, hg.tape, hg.output, hg.size, fun b hb => hg.block b hb (by simp)⟩
        refine StepOk.make h hb rfl (hnew _ rfl) (hfree (by simp [makes])) ?_ (fun _ b hb => by simp [blkOf, addrOf] at hb; omega)
        rcases hown.2 with ⟨h1, _⟩ | ⟨g, cap, cur, h1, _, hgg, h2, h3, h4, h5⟩
        · simp at h1
        · simp only [Value.slice.injEq, Option.some.injEq, Addr.mk.injEq, and_true, true_and] at h1
          obtain ⟨rfl, rfl⟩ := h1
          show RowRel (σ.set base (.slice (some ⟨w.heap.size, 0, none⟩) m m)) w' .own e te.size n.toNX.val (fun _ => zeroI te) (.slice (some ⟨w.heap.size, 0, none⟩) m m)
          rw [hnv]
          refine ⟨hsz, .inr ⟨w.heap.size, _, cur, rfl, hgg, by simp, by simpa using h3, by simpa using h4, ?_⟩⟩
          have hcur : cur.toList = (List.replicate m te.zero).flatten := by
            have e1 : cur.toList.take (m * te.size) = cur.toList := List.take_of_length_le (by simp [h4])
            rw [e1] at h5
            rw [h5, hzc]
            have := zeros_made te.zero m (by omega)
            rw [hzl] at this
            simpa [madeCells] using this
          have hz2 := zerosI_rel (σ := σ) (hT e te he).zone m
          have hzz : ∀ n, zerosI te n = (List.replicate n (zeroI te)).flatten := by
            intro n
            induction n with
            | zero => rfl
            | succ n ih => rw [List.replicate_succ, List.flatten_cons, ← ih]; rfl
          intro e1 he1
          have he1' : e1 < m := by simpa using he1
          have hzil : (zeroI te).length = te.size := by simp [zeroI, hzl]
          refine ⟨hzil, fun j c hj => ?_⟩
          have hj' : j < te.size := by rw [← hzil]; exact (List.getElem?_eq_some_iff.1 hj).1
          have hmul : (e1 + 1) * te.size ≤ m * te.size := Nat.mul_le_mul_right _ he1'
          rw [Nat.add_mul, Nat.one_mul] at hmul
          -- cell e1*size+j of the zeros is cell j of one
          have hflat : ∀ (n i : Nat) , i < n → ∀ j, j < te.size → (zerosI te n)[i * te.size + j]? = (zeroI te)[j]? := by
            intro n
            induction n with
            | zero => intro i h; omega
            | succ n ih =>
              intro i h j hj
              show (zeroI te ++ zerosI te n)[i * te.size + j]? = _
              cases i with
              | zero => rw [List.getElem?_append_left (by omega)]; simp
              | succ i =>
                rw [List.getElem?_append_right (by rw [Nat.add_mul]; omega), hzil, Nat.add_mul, Nat.one_mul, show i * te.size + te.size + j - te.size = i * te.size + j by omega]
                exact ih i (by omega) j hj
          obtain ⟨v, hv, hcr⟩ := hz2.get _ c (by rw [hflat m e1 he1' j hj']; exact hj)
          refine ⟨v, ?_, hcr.le (Ren.le_set _ (hfree (by simp [makes])))⟩
          rw [← hcur] at hv
          simpa using hv
      · subst ho; exact hs.elim
    · subst ho; exact hs.elim
  · subst ho; exact hs.elim

theorem nilCheck_ok (h : Sim B O σ M w) {x : IV} {u : Value} {ρ : Operand → Value} {o : Oper} {ox : Operand} (hop : o.op = .nilCheck ox) (hu : ρ ox = u) (hx : IR σ x u) {out : Out} (ho : nilCheckI M x = out) (hs : out.side) :
    (execOp ρ o).run P w = .ok (.value u) w ∧ IR σ out.r u ∧ out.news = [] ∧ out.upd = [] := by
  have fin : (∃ a, u = .pointer (some a)) ∨ (∃ f a b, u = .func (.func f) a b) → (execOp ρ o).run P w = .ok (.value u) w := by
    rintro (⟨a, rfl⟩ | ⟨f, a, b, rfl⟩) <;> simp [execOp, hop, hu]
  unfold nilCheckI at ho
  split at ho
  · rename_i i
    split at ho
    · rename_i bo tt cs hM
      subst ho
      obtain ⟨ob, hM', hr⟩ := h.ob i u hx.2
      rw [hM] at hM'
      cases hM'
      refine ⟨fin (.inl ?_), hx, rfl, rfl⟩
      cases bo with
      | true => obtain ⟨g, vs, rfl, _⟩ := hr; exact ⟨_, rfl⟩
      | false => obtain ⟨b, off, rfl, _⟩ := hr; exact ⟨_, rfl⟩
    · rename_i f first cap hM
      subst ho
      obtain ⟨ob, hM', hr⟩ := h.ob i u hx.2
      rw [hM] at hM'
      cases hM'
      obtain ⟨f', c, rfl, _⟩ := hr
      exact ⟨fin (.inr ⟨_, _, _, rfl⟩), hx, rfl, rfl⟩
    · subst ho; exact hs.elim
  · subst ho
    obtain ⟨_, hv, b, off, _, _, rfl⟩ := hx
    exact ⟨fin (.inl ⟨_, rfl⟩), ⟨rfl, hv, b, off, ‹_›, ‹_›, rfl⟩, rfl, rfl⟩
  · subst ho
    have : u = _ := hx.2
    subst this
    exact ⟨fin (.inr ⟨_, _, _, rfl⟩), hx, rfl, rfl⟩
  · subst ho; exact hs.elim

theorem cellsOne : ∀ {xs : List IV} {us : List Value}, cellOne xs → All2 (IR σ) xs us → All2 (CR σ) (xs.flatMap (·.cells)) us
  | [], [], _, _ => trivial
  | [], _ :: _, _, h => h.elim
  | _ :: _, [], _, h => h.elim
  | .one x :: xs, u :: us, hc, ha => ⟨ha.1, cellsOne (xs := xs) hc.2 ha.2⟩
  | .agg _ :: _, _ :: _, hc, _ => hc.1.elim
  | .tup _ :: _, _ :: _, hc, _ => hc.1.elim

theorem makeFunc_ok (h : Sim B O σ M w) {fn : Fn} {first cap : List IV} {us vs : Array Value} (hf : All2 (IR σ) first us.toList) (hc : All2 (IR σ) cap vs.toList) {out : Out} (ho : makeFuncI base fn first cap = out) (hs : out.side)
    (hnew : ∀ ob, out.news[0]? = some ob → M base = some ob) (hfree : out.news ≠ [] → σ base = none) :
    ∃ σ', (Instr.makeFunc fn us vs).run P w = .ok (.func fn us vs) w ∧ StepOk B O σ (updL M out.upd) out base w (.func fn us vs) w σ' := by
  subst ho
  obtain ⟨h1, h2⟩ := hs
  have hfr := hfree (by simp [makeFuncI, makes])
  refine ⟨_, rfl, StepOk.make h (Below.refl _ w) rfl (hnew _ rfl) hfr ⟨us.toList, vs.toList, rfl, (cellsOne h1 hf).mono fun _ _ => CR.le (Ren.le_set _ hfr), (cellsOne h2 hc).mono fun _ _ => CR.le (Ren.le_set _ hfr)⟩ (fun hocc => hocc.elim)⟩

theorem fieldAddr_ok (hT : TabOk P T) (h : Sim B O σ M w) {x : IV} {u : Value} {f : Nat} (hx : IR σ x u) {out : Out} (ho : fieldAddrI T t x f = out) (hs : out.side)
    (hbox : ∀ i, x = .one (.ref i) → ∃ bo tt cs, M i = some (.box bo tt cs)) :
    ∃ r, (Instr.fieldAt t u f).run P w = .ok r w ∧ IR σ out.r r ∧ out.news = [] ∧ out.upd = [] := by
  unfold fieldAddrI at ho
  split at ho
  · rename_i ti ht
    split at ho
    · rename_i fs hk
      obtain ⟨gs, hu, rfl⟩ := hT.struct ht hk
      split at ho
      · rename_i off ft hfs
        simp only [List.getElem?_map, Array.getElem?_toList, Option.map_eq_some_iff] at hfs
        obtain ⟨fd, hfd, hfe⟩ := hfs
        simp only [Prod.mk.injEq] at hfe
        obtain ⟨rfl, rfl⟩ := hfe
        split at ho
        · rename_i tf htf
          have hrun : 0 < tf.size → ∀ b o, (Instr.fieldAt t (.pointer (some ⟨b, o, none⟩)) f).run P w = .ok (.pointer (some ⟨b, o + fd.offset, none⟩)) w := by
            intro h0 b o
            have hsz := hT.sizeOf htf w
            simp [Instr.fieldAt, run_underlying hu, hfd, Instr.sureAddr, fieldPlace, hsz, show tf.size ≠ 0 by omega, Addr.add_lit]
          split at ho
          · rename_i i
            subst ho
            obtain ⟨bo, tt, cs, hM⟩ := hbox i rfl
            obtain ⟨ob, hM', hr⟩ := h.ob i u hx.2
            rw [hM] at hM'
            cases hM'
            have : ∃ b o, u = .pointer (some ⟨b, o, none⟩) := by
              cases bo with
              | true => obtain ⟨g, vs, rfl, _⟩ := hr; exact ⟨g, 0, rfl⟩
              | false => obtain ⟨b, off, rfl, _⟩ := hr; exact ⟨b, off, rfl⟩
            obtain ⟨b, o, rfl⟩ := this
            refine ⟨_, hrun (Nat.le_of_ble_eq_true (isT_iff.1 hs)) b o, ⟨rfl, _, b, o, hx.2, rfl, by simp [NX.val]⟩, rfl, rfl⟩
          · rename_i i e j k
            subst ho
            obtain ⟨_, hv, b, o, h1, h2, rfl⟩ := hx
            refine ⟨_, hrun (Nat.le_of_ble_eq_true (isT_iff.1 hs)) b _, ⟨rfl, hv, b, o, h1, h2, by simp <;> omega⟩, rfl, rfl⟩
          · subst ho; exact hs.elim
        · subst ho; exact hs.elim
      · subst ho; exact hs.elim
    · subst ho; exact hs.elim
  · subst ho; exact hs.elim

/-- A part of a struct's cells. -/
theorem part_ok (hT : TabOk P T) {l : List CV} {vs : List Value} (ha : All2 (CR σ) l vs) (off : Nat) (ht : T t = some ti) (hl : isT (Nat.beq ((l.drop off).take ti.size).length ti.size)) :
    ∃ r, (part t vs.toArray off).run P w = .ok r w ∧ IR σ (match ti.isAgg with
      | true => .agg ((l.drop off).take ti.size)
      | false => .one (((l.drop off).take ti.size).headD .top)) r := by
  have hl := Nat.eq_of_beq_eq_true (isT_iff.1 hl)
  have hp := (ha.drop off).take ti.size
  have hpl := hp.length
  cases hag : ti.isAgg with
  | true =>
    refine ⟨.agg ((vs.drop off).take ti.size).toArray, ?_, ⟨_, rfl, hp⟩⟩
    simp only [part, Sem.run_bind, hT.isAgg ht, hag, Result.andThen_ok, if_true, hT.sizeOf ht, Sem.run_pure]
    congr 2
    apply Array.ext'
    simp [List.extract_eq_take_drop]
  | false =>
    have h1 := (hT t ti ht).one hag
    rw [h1] at hl hp ⊢
    match hcs : (l.drop off).take 1, hvs : (vs.drop off).take 1 with
    | [], _ => rw [hcs] at hl; simp at hl
    | [c], [] => rw [hcs, hvs] at hp; exact hp.elim
    | [c], [v] =>
      rw [hcs, hvs] at hp
      refine ⟨v, ?_, hp.1⟩
      have hv : vs[off]? = some v := by
        have : ((vs.drop off).take 1)[0]? = some v := by rw [hvs]; rfl
        simpa using this
      simp [part, hT.isAgg ht, hag, hv]
    | [c], _ :: _ :: _ => have := congrArg List.length hvs; simp at this; omega
    | _ :: _ :: _, _ => rw [hcs] at hl; simp at hl

theorem field_ok (hT : TabOk P T) {x : IV} {u : Value} {f : Nat} (hx : IR σ x u) {out : Out} (ho : fieldI T t x f = out) (hs : out.side) :
    ∃ r, (Instr.field t u f).run P w = .ok r w ∧ IR σ out.r r ∧ out.news = [] ∧ out.upd = [] := by
  unfold fieldI at ho
  split at ho
  · rename_i ti l ht
    obtain ⟨vs, rfl, ha⟩ := hx
    split at ho
    · rename_i fs hk
      obtain ⟨gs, hu, rfl⟩ := hT.struct ht hk
      split at ho
      · rename_i off ft hfs
        simp only [List.getElem?_map, Array.getElem?_toList, Option.map_eq_some_iff] at hfs
        obtain ⟨fd, hfd, hfe⟩ := hfs
        simp only [Prod.mk.injEq] at hfe
        obtain ⟨rfl, rfl⟩ := hfe
        split at ho
        · rename_i tf htf
          subst ho
          obtain ⟨r, hr, hir⟩ := part_ok (P := P) (w := w) hT ha fd.offset htf hs
          exact ⟨r, by simp [Instr.field, run_underlying hu, hfd, asAgg, hr], hir, rfl, rfl⟩
        · subst ho; exact hs.elim
      · subst ho; exact hs.elim
    · subst ho; exact hs.elim
  · subst ho; exact hs.elim

theorem index_ok (hT : TabOk P T) {x y : IV} {u v : Value} (hx : IR σ x u) (hy : IR σ y v) {out : Out} (ho : indexI T t x y = out) (hs : out.side) (hstr : ∀ s, x = .one (.s s) → kindIs T t .str) :
    ∃ r, (Instr.index t u v).run P w = .ok r w ∧ IR σ out.r r ∧ out.news = [] ∧ out.upd = [] := by
  unfold indexI at ho
  split at ho
  · rename_i s k i
    have hu : u = .string (s ()) := hx.2
    have hv : v = .int k i.val := hy.2
    subst hu hv ho
    have hks := hstr s rfl
    have hut : P.underlying t = some .string := by
      unfold kindIs at hks
      cases ht : T t with
      | none => simp only [ht] at hks
      | some ti => simp only [ht] at hks; exact hT.str ht hks
    obtain ⟨h0, h1⟩ := hs
    have h0 : (0 : Int) ≤ i.val := leI_iff h0
    have h1 : i.val < ((s ()).size : Int) := by have := ltI_iff h1; simpa [IX.val, addN] using this
    refine ⟨.int .u8 (((s ()).data.toList.getD i.val.toNat 0).toNat : Int), ?_, IR_cint .u8 (.sy fun _ => byteAt (s ()) i.val.toNat), rfl, rfl⟩
    rw [run_index_string (P := P) w t (s ()) k i.val hut, dif_pos ⟨h0, h1⟩]
    congr 2
    have hlt : i.val.toNat < (s ()).data.toList.length := by
      have : (s ()).data.toList.length = (s ()).size := Array.length_toList
      omega
    rw [List.getD_eq_getElem?_getD, List.getElem?_eq_getElem hlt, Option.getD_some]
    rfl
  · rename_i l k i
    obtain ⟨vs, rfl, ha⟩ := hx
    have hv : v = .int k i.val := hy.2
    subst hv
    split at ho
    · rename_i ti ht
      split at ho
      · rename_i n e hk
        split at ho
        · rename_i te he
          subst ho
          obtain ⟨⟨h0, h1⟩, h2⟩ := hs
          have h0 : (0 : Int) ≤ i.val := leI_iff h0
          have h1 : i.val < (n : Int) := ltI_iff h1
          have hut := hT.array ht hk
          obtain ⟨r, hr, hir⟩ := part_ok (P := P) (w := w) hT ha (i.toNX.val * te.size) he h2
          rw [IX.toNX_val] at hr
          exact ⟨r, by simp [Instr.index, asIntOf, run_underlying hut, h0, h1, hT.sizeOf he, hr], hir, rfl, rfl⟩
        · subst ho; exact hs.elim
      · subst ho; exact hs.elim
    · subst ho; exact hs.elim
  · subst ho; exact hs.elim

theorem indexAddr_ok (hT : TabOk P T) (h : Sim B O σ M w) {x y : IV} {u v : Value} (hx : IR σ x u) (hy : IR σ y v) {out : Out} (ho : indexAddrOp T M t x y = out) (hs : out.side) :
    ∃ r, (Instr.indexAt t u v).run P w = .ok r w ∧ IR σ out.r r ∧ out.news = [] ∧ out.upd = [] := by
  unfold indexAddrOp at ho
  split at ho
  · rename_i ti ht
    split at ho
    · rename_i e hk
      split at ho
      · rename_i te he
        have hut := hT.slice ht hk
        have hrun : ∀ (b o len cap : Nat) (kk : IntKind) (i : Int), 0 ≤ i → i < len → (Instr.indexAt t (.slice (some ⟨b, o, none⟩) len cap) (.int kk i)).run P w = .ok (.pointer (some ⟨b, o + i.toNat * te.size, none⟩)) w := by
          intro b o len cap kk i h0 h1
          simp [Instr.indexAt, asIntOf, run_underlying hut, h0, h1, hT.sizeOf he, Addr.add_lit]
        unfold indexAddrI at ho
        split at ho
        · rename_i i k n
          have hv : v = .int k n.val := hy.2
          subst hv
          split at ho
          · rename_i md tt kk len get hM
            subst ho
            obtain ⟨hkk, h0, h1⟩ := hs
            obtain rfl := Nat.eq_of_beq_eq_true (isT_iff.1 hkk)
            have h0 : (0 : Int) ≤ n.val := leI_iff h0
            have h1 : n.val < (len.val : Int) := by have := ltI_iff h1; rwa [NX.toIX_val] at this
            obtain ⟨A, cp, rfl, hlm, hc⟩ := seen_ok (c := .ref i) h hx (by simp [seen, hM])
            have hse : (seen M (.ref i)).len = len := by simp [seen, hM]
            obtain ⟨b, o, rfl, _⟩ := hc (by rw [hse]; omega)
            rw [hse] at *
            refine ⟨_, hrun b o len.val cp k n.val h0 h1, ⟨rfl, _, b, o, hx.2, rfl, by rw [IX.toNX_val]; simp⟩, rfl, rfl⟩
          · subst ho; exact hs.elim
        · rename_i i s len kk k n
          have hv : v = .int k n.val := hy.2
          subst hv ho
          obtain ⟨hkk, h0, h1⟩ := hs
          obtain rfl := Nat.eq_of_beq_eq_true (isT_iff.1 hkk)
          have h0 : (0 : Int) ≤ n.val := leI_iff h0
          have h1 : n.val < (len.val : Int) := by have := ltI_iff h1; rwa [NX.toIX_val] at this
          obtain ⟨_, hv', A, c, hσ, rfl, hnc, hcm, hA⟩ := hx
          obtain ⟨b, o, haddr, rfl⟩ := hA (by omega)
          refine ⟨_, hrun b _ len.val c k n.val h0 h1, ⟨rfl, hv', b, o, hσ, haddr, ?_⟩, rfl, rfl⟩
          rw [NX.add_val, IX.toNX_val]
          simp [Nat.add_mul, Nat.add_assoc]
        · rename_i i len k n
          have hv : v = .int k n.val := hy.2
          subst hv
          split at ho
          · rename_i md tt kk L get hM
            subst ho
            obtain ⟨hkk, h0, h1⟩ := hs
            obtain rfl := Nat.eq_of_beq_eq_true (isT_iff.1 hkk)
            have h0 : (0 : Int) ≤ n.val := leI_iff h0
            have h1 : n.val < (len.val : Int) := by have := ltI_iff h1; rwa [NX.toIX_val] at this
            obtain ⟨hone, a, LL, c, hσ, rfl, hnl⟩ := hx
            obtain ⟨A, cp, he2, hlm, hc⟩ := seen_ok (c := .ref i) h ⟨rfl, hσ⟩ (by simp [seen, hM])
            have hse : (seen M (.ref i)).len = L := by simp [seen, hM]
            rw [hse] at *
            cases he2
            obtain ⟨b, o, rfl, _⟩ := hc (by omega)
            refine ⟨_, hrun b o len.val c k n.val h0 h1, ⟨rfl, _, b, o, hσ, rfl, by rw [IX.toNX_val]; simp⟩, rfl, rfl⟩
          · subst ho; exact hs.elim
        · subst ho; exact hs.elim
      · subst ho; exact hs.elim
    · subst ho; exact hs.elim
  · subst ho; exact hs.elim

theorem extract_ok {x : IV} {u : Value} {ix : Nat} (hx : IR σ x u) {out : Out} (ho : extractI x ix = out) (hs : out.side) :
    ∃ r, (Instr.extract u ix).run P w = .ok r w ∧ IR σ out.r r ∧ out.news = [] ∧ out.upd = [] := by
  unfold extractI at ho
  split at ho
  · rename_i l
    obtain ⟨vs, rfl, ha⟩ := hx
    split at ho
    · rename_i v hv
      subst ho
      obtain ⟨r, hr, htr⟩ := ha.get ix v hv
      refine ⟨r, ?_, ?_, rfl, rfl⟩
      · simp [Instr.extract, hr]
      · cases v with
        | one x => exact htr
        | agg l => exact htr
    · subst ho; exact hs.elim
  · subst ho; exact hs.elim
end prims
end Go.Proofs.YthgllnnlngihoaaGreat.Sx
end
section
set_option linter.unusedVariables false
set_option linter.unusedSimpArgs false
namespace Go.Proofs.YthgllnnlngihoaaGreat.Sx
open Go.RowKit

section prims
variable {P : Program} {T : Tab} {B : Nat} {O : Nat → Prop} {σ : Ren} {M : Mem} {w : World} {base : Nat} {t : TypeId} {ti : TI}

theorem isByte_spec {l : List CV} (h : isByte l) : ∃ x : IX, l = [.i .u8 x] ∧ 0 ≤ x.val ∧ x.val ≤ 255 ∧ byteOf l = UInt8.ofNat x.val.toNat := by
  unfold isByte at h
  split at h
  · rename_i k x
    obtain ⟨rfl, h0, h1⟩ := h
    exact ⟨x, rfl, h0, h1, rfl⟩
  · exact h.elim

theorem lenTy_ok (hT : TabOk P T) (h : Sim B O σ M w) {x : IV} {u : Value} (ty : TypeId) (hx : IR σ x u) {out : Out} (ho : (lenI M x).also (lenTy T t x) = out) (hs : out.side) :
    ∃ r, (Builtin.len_ #[t] ty #[u]).run P w = .ok r w ∧ IR σ out.r r ∧ out.news = [] ∧ out.upd = [] := by
  subst ho
  obtain ⟨ht, hs⟩ := hs
  have slc : ∀ (A : Option Addr) (n c : Nat), isSliceT T t → (Builtin.len_ #[t] ty #[.slice A n c]).run P w = .ok (.int .i64 n) w := by
    intro A n c hsl
    obtain ⟨e, he⟩ := isSliceT_slice hT hsl
    simp [Builtin.len_, run_underlying he, goInt]
  unfold lenI at hs
  split at hs
  · rename_i s
    have hu : u = .string (s ()) := hx.2
    subst hu
    have hk : P.underlying t = some .string := by
      have ht' : kindIs T t .str := ht
      unfold kindIs at ht'
      cases hTt : T t with
      | none => simp only [hTt] at ht'
      | some ti => simp only [hTt] at ht'; exact hT.str hTt ht'
    exact ⟨.int .i64 (s ()).size, by simp [Builtin.len_, run_underlying hk, goInt], IR_cint .i64 (.nat (fun _ => (s ()).size) 0), rfl, rfl⟩
  · rename_i c h1
    obtain ⟨A, cp, rfl, _⟩ := seen_ok h hx hs
    have e : lenI M (.one c) = ⟨(seen M c).side, cint .i64 (seen M c).len.toIX, [], [], (seen M c).reads⟩ := by
      unfold lenI
      split
      · rename_i s h; cases h; exact (h1 _ rfl).elim
      · rename_i h; cases h; rfl
      · rename_i h; exact (h _ rfl).elim
    have hts : isSliceT T t := by
      unfold lenTy at ht
      split at ht
      · rename_i s h; cases h; exact (h1 _ rfl).elim
      · exact ht
    refine ⟨_, slc A _ cp hts, ?_, ?_, ?_⟩ <;> simp only [Out.also, e]
    have := IR_cint (σ := σ) .i64 (seen M c).len.toIX
    rwa [NX.toIX_val] at this
  · exact hs.elim

theorem max_ok (tys : Array TypeId) (ty : TypeId) {x y : IV} {u v : Value} (hx : IR σ x u) (hy : IR σ y v) (hs : (maxI x y).side) :
    ∃ r, (Builtin.max2 u v).run P w = .ok r w ∧ IR σ (maxI x y).r r ∧ (maxI x y).news = [] ∧ (maxI x y).upd = [] := by
  unfold maxI at hs ⊢
  split at hs
  · rename_i k a k' b
    have hu : u = .int k a.val := hx.2
    have hv : v = .int k' b.val := hy.2
    subst hu hv
    have hkk : isT (eqK k k') := hs
    obtain rfl := eqK_iff (isT_iff.1 hkk)
    refine ⟨.int k (max a.val b.val), ?_, IR_cint k (.sy fun _ => max a.val b.val), rfl, rfl⟩
    simp only [Builtin.max2, Sem.run_pure]
    congr 2
    split <;> omega
  · exact hs.elim
theorem min_ok (tys : Array TypeId) (ty : TypeId) {x y : IV} {u v : Value} (hx : IR σ x u) (hy : IR σ y v) (hs : (minI x y).side) :
    ∃ r, (Builtin.min2 u v).run P w = .ok r w ∧ IR σ (minI x y).r r ∧ (minI x y).news = [] ∧ (minI x y).upd = [] := by
  unfold minI at hs ⊢
  split at hs
  · rename_i k a k' b
    have hu : u = .int k a.val := hx.2
    have hv : v = .int k' b.val := hy.2
    subst hu hv
    have hkk : isT (eqK k k') := hs
    obtain rfl := eqK_iff (isT_iff.1 hkk)
    refine ⟨.int k (min a.val b.val), ?_, IR_cint k (.sy fun _ => min a.val b.val), rfl, rfl⟩
    simp only [Builtin.min2, Sem.run_pure]
    congr 2
    split <;> omega
  · exact hs.elim

/-- The bounds of a cut. -/
theorem bounds_ok {isS : Bool} {len cap : Nat} {lo hi : Option Value} {l h : Int} (hl : lo = none ∧ l = 0 ∨ ∃ k, lo = some (.int k l)) (hh : hi = none ∧ h = len ∨ ∃ k, hi = some (.int k h)) (h0 : 0 ≤ l) (h1 : l ≤ h) (h2 : h ≤ len) (hc : len ≤ cap) :
    (Instr.sliceBounds isS len cap lo hi none).run P w = .ok (l.toNat, h.toNat, cap) w := by
  have e1 : 0 ≤ h := by omega
  have e2 : h ≤ cap := by omega
  have e3 : l ≤ (h.toNat : Int) := by omega
  have e4 : l ≤ (len : Int) := by omega
  rcases hl with ⟨rfl, hl⟩ | ⟨k, rfl⟩ <;> rcases hh with ⟨rfl, hh⟩ | ⟨k', rfl⟩ <;> simp [Instr.sliceBounds, Instr.sliceBound, asIntOf, e1, e2, h0, e3, e4] <;> omega

theorem intOfC_spec {y : IV} {n : IX} (h : intOfC y = some n) : ∃ k, y = .one (.i k n) := by
  unfold intOfC at h
  split at h
  · cases h; exact ⟨_, rfl⟩
  · cases h

/-- What the bounds are. -/
def OptRel (σ : Ren) : Option IV → Option Value → Prop
  | none, none => True
  | some x, some v => IR σ x v
  | _, _ => False
theorem loOf_ok {lo : Option IV} {vl : Option Value} (h : OptRel σ lo vl) {l : Option IX} (hl : loOf lo = some l) : (vl = none ∧ l = none) ∨ ∃ k n, vl = some (.int k n.val) ∧ l = some n := by
  cases lo with
  | none => cases vl with
    | none => simp [loOf] at hl; exact .inl ⟨rfl, hl.symm⟩
    | some _ => exact h.elim
  | some y => cases vl with
    | none => exact h.elim
    | some v =>
      simp only [loOf, Option.map_eq_some_iff] at hl
      obtain ⟨n, hn, rfl⟩ := hl
      obtain ⟨k, rfl⟩ := intOfC_spec hn
      exact .inr ⟨k, n, by rw [show v = _ from h.2], rfl⟩
theorem hiOf_ok {hi : Option IV} {vh : Option Value} {x : IV} (h : OptRel σ hi vh) {n : IX} (hl : hiOf x hi = some n) : (vh = none ∧ intOfC x = some n) ∨ ∃ k, vh = some (.int k n.val) := by
  cases hi with
  | none => cases vh with
    | none => exact .inl ⟨rfl, hl⟩
    | some _ => exact h.elim
  | some y => cases vh with
    | none => exact h.elim
    | some v =>
      obtain ⟨k, rfl⟩ := intOfC_spec hl
      exact .inr ⟨k, by rw [show v = _ from h.2]⟩

theorem row_slice (h : Sim B O σ M w) {i : Nat} {u : Value} (hσ : σ i = some u) (hsd : (seen M (.ref i)).side) : ∃ A cp, u = .slice A (seen M (.ref i)).len.val cp ∧ (seen M (.ref i)).len.val ≤ cp ∧ cp ≤ maxLen ∧ (0 < (seen M (.ref i)).len.val → ∃ b o, A = some ⟨b, o, none⟩) := by
  obtain ⟨ob, hM, hr⟩ := h.ob i _ hσ
  cases ob with
  | row md tt k len get =>
    have hle : (seen M (.ref i)).len = len := by simp [seen, hM]
    rw [hle]
    cases md with
    | ro => obtain ⟨A, c, e, a, b, _, h5⟩ := hr; exact ⟨A, c, e, a, b, fun hl => let ⟨b, o, e, _⟩ := h5 hl; ⟨b, o, e⟩⟩
    | own =>
      obtain ⟨_, ⟨e, hl⟩ | ⟨g, c, _, e, _, a, b, _⟩⟩ := hr
      · rw [hl]; exact ⟨none, 0, e, Nat.le_refl _, by simp [maxLen], fun h => by omega⟩
      · exact ⟨_, c, e, a, b, fun _ => ⟨g, 0, rfl⟩⟩
    | mk => obtain ⟨_, g, c, _, _, e, _, _, a, b, _⟩ := hr; exact ⟨_, c, e, a, b, fun _ => ⟨g, 0, rfl⟩⟩
  | _ => simp [seen, hM] at hsd

theorem slice_ok (hT : TabOk P T) (h : Sim B O σ M w) {x : IV} {u : Value} {lo hi : Option IV} {vl vh : Option Value} (hx : IR σ x u) (hlo : OptRel σ lo vl) (hhi : OptRel σ hi vh) {out : Out} (ho : sliceOp T M t x lo hi = out) (hs : out.side) :
    ∃ r, (Instr.sliceAt t u vl vh none).run P w = .ok r w ∧ IR σ out.r r ∧ out.news = [] ∧ out.upd = [] := by
  unfold sliceOp at ho
  split at ho
  · rename_i ti ht
    split at ho
    · rename_i e l n hk hl hh
      split at ho
      · rename_i te he
        have hut := hT.slice ht hk
        have hl' := loOf_ok hlo hl
        have hh' := hiOf_ok hhi hh
        have hrun : ∀ (A : Option Addr) (len cap : Nat) (lv : Int), (vl = none ∧ lv = 0 ∨ ∃ k, vl = some (.int k lv)) → (vh = none → n.val = len) → len ≤ cap → 0 ≤ lv → lv ≤ n.val → n.val ≤ len → (Instr.sliceAt t (.slice A len cap) vl vh none).run P w = .ok (.slice (if cap = lv.toNat then A else A.map (·.add (lv.toNat * te.size))) ((n.val - lv).toNat) (cap - lv.toNat)) w := by
          intro A len cap lv hlv hn hc h0 h1 h2
          have hb := bounds_ok (P := P) (w := w) (isS := true) (len := len) (cap := cap) (l := lv) (h := n.val) hlv (hh'.elim (fun a => .inl ⟨a.1, hn a.1⟩) .inr) h0 h1 h2 hc
          have e1 : n.val.toNat - lv.toNat = (n.val - lv).toNat := by omega
          simp [Instr.sliceAt, Instr.slice, run_underlying hut, hb, hT.sizeOf he, e1]
        have hlv0 : l = none → (vl = none ∧ (0 : Int) = 0 ∨ ∃ k, vl = some (.int k 0)) := by
          intro e
          rcases hl' with ⟨a, _⟩ | ⟨k, m, a, b⟩
          · exact .inl ⟨a, rfl⟩
          · rw [e] at b; cases b
        have hlv1 : ∀ m, l = some m → (vl = none ∧ m.val = 0 ∨ ∃ k, vl = some (.int k m.val)) := by
          intro m e
          rcases hl' with ⟨_, b⟩ | ⟨k, m', a, b⟩
          · rw [e] at b; cases b
          · rw [e] at b; cases b; exact .inr ⟨k, a⟩
        have hcut : ∀ (a : Option Addr) (len c : Nat), (if c = (0 : Int).toNat then a else a.map (·.add ((0 : Int).toNat * te.size))) = a := by
          intro a len c
          split
          · rfl
          · cases a with
            | none => rfl
            | some a => simp [Addr.add]
        unfold sliceI at ho
        split at ho
        · rename_i i
          subst ho
          obtain ⟨hsd, hsk, h0, h2⟩ := hs
          have h0 : (0 : Int) ≤ n.val := leI_iff h0
          have h2 := leI_iff h2
          rw [NX.toIX_val] at h2
          obtain ⟨A, cp, rfl, hc1, hc2, hA⟩ := row_slice h hx.2 hsd
          have := hrun A _ cp 0 (hlv0 rfl) (fun hv => by
            rcases hh' with ⟨_, b⟩ | ⟨k, b⟩
            · simp [lenI, cint, intOfC] at b; rw [← b, NX.toIX_val]
            · rw [hv] at b; cases b) hc1 (Int.le_refl _) h0 h2
          rw [hcut A 0 cp] at this
          refine ⟨_, this, ⟨rfl, A, _, cp, hx.2, ?_, ?_⟩, rfl, rfl⟩
          · rw [IX.toNX_val]; simp
          · rw [IX.toNX_val]; omega
        · rename_i i lo
          subst ho
          obtain ⟨hsd, hsk, h0, h1, h2⟩ := hs
          have h0 : (0 : Int) ≤ lo.val := leI_iff h0
          have h1 := leI_iff h1
          have h2 := leI_iff h2
          rw [NX.toIX_val] at h2
          obtain ⟨A, cp, rfl, hc1, hc2, hA⟩ := row_slice h hx.2 hsd
          have := hrun A _ cp lo.val (hlv1 _ rfl) (fun hv => by
            rcases hh' with ⟨_, b⟩ | ⟨k, b⟩
            · simp [lenI, cint, intOfC] at b; rw [← b, NX.toIX_val]
            · rw [hv] at b; cases b) hc1 h0 h1 h2
          refine ⟨_, this, ⟨rfl, _, (if cp = lo.val.toNat then A else A.map (·.add (lo.val.toNat * te.size))), cp - lo.val.toNat, hx.2, ?_, ?_, by omega, fun hn => ?_⟩, rfl, rfl⟩
          · rw [NX.sub_val, IX.toNX_val, IX.toNX_val]; congr 1; omega
          · rw [NX.sub_val, IX.toNX_val, IX.toNX_val]; omega
          · rw [NX.sub_val, IX.toNX_val, IX.toNX_val] at hn
            obtain ⟨b, o, rfl⟩ := hA (by omega)
            refine ⟨b, o, rfl, ?_⟩
            have hne : ¬ cp = lo.val.toNat := by omega
            rw [if_neg hne, IX.toNX_val]
            simp [Addr.add_lit]
        · rename_i i st m k lo
          subst ho
          obtain ⟨hsd, hsk, h0, h1, h2⟩ := hs
          obtain rfl := Nat.eq_of_beq_eq_true (isT_iff.1 hsk)
          have h0 : (0 : Int) ≤ lo.val := leI_iff h0
          have h1 := leI_iff h1
          have h2 := leI_iff h2
          rw [NX.toIX_val] at h2
          have hle : (seen M (.sub i st m te.size)).len = m := by
            revert hsd
            cases hM : M i with
            | none => simp [seen, hM]
            | some ob => cases ob <;> simp [seen, hM]
          obtain ⟨_, hv, A, c, hσ, rfl, hnc, hcm, hA⟩ := hx
          have := hrun A _ c lo.val (hlv1 _ rfl) (fun hv => by
            rcases hh' with ⟨_, b⟩ | ⟨k, b⟩
            · simp [lenI, cint, intOfC, hle] at b; rw [← b, NX.toIX_val]
            · rw [hv] at b; cases b) hnc h0 h1 h2
          refine ⟨_, this, ⟨rfl, hv, (if c = lo.val.toNat then A else A.map (·.add (lo.val.toNat * te.size))), c - lo.val.toNat, hσ, ?_, ?_, by omega, fun hn => ?_⟩, rfl, rfl⟩
          · rw [NX.sub_val, IX.toNX_val, IX.toNX_val]; congr 1; omega
          · rw [NX.sub_val, IX.toNX_val, IX.toNX_val]; omega
          · rw [NX.sub_val, IX.toNX_val, IX.toNX_val] at hn
            obtain ⟨b, o, hb, rfl⟩ := hA (by omega)
            refine ⟨b, o, hb, ?_⟩
            have hne : ¬ c = lo.val.toNat := by omega
            rw [if_neg hne, NX.add_val, IX.toNX_val]
            simp [Addr.add_lit, Nat.add_mul, Nat.add_assoc]
        · rename_i i m
          subst ho
          obtain ⟨hsd, hsk, h0, h2⟩ := hs
          have h0 : (0 : Int) ≤ n.val := leI_iff h0
          have h2 := leI_iff h2
          rw [NX.toIX_val] at h2
          have hle : (seen M (.cut i m)).len = m := by
            revert hsd
            cases hM : M i with
            | none => simp [seen, hM]
            | some ob => cases ob <;> simp [seen, hM]
          obtain ⟨_, a, L, c, hσ, rfl, hnL⟩ := hx
          have hrow : (seen M (.ref i)).side := by
            revert hsd
            cases hM : M i with
            | none => simp [seen, hM]
            | some ob => cases ob <;> simp [seen, hM]
          obtain ⟨A', cp, he2, hc1, hc2, _⟩ := row_slice h hσ hrow
          cases he2
          have := hrun a _ c 0 (hlv0 rfl) (fun hv => by
            rcases hh' with ⟨_, b⟩ | ⟨k, b⟩
            · simp [lenI, cint, intOfC, hle] at b; rw [← b, NX.toIX_val]
            · rw [hv] at b; cases b) (by omega) (Int.le_refl _) h0 h2
          rw [hcut a 0 c] at this
          refine ⟨_, this, ⟨rfl, a, _, c, hσ, ?_, ?_⟩, rfl, rfl⟩
          · rw [IX.toNX_val]; simp
          · rw [IX.toNX_val]; omega
        · subst ho
          obtain ⟨h0, h1, h2⟩ := hs
          have h0 : (0 : Int) ≤ (l.getD (.lit 0)).val := leI_iff h0
          have h1 := leI_iff h1
          have h2 : n.val ≤ (0 : Int) := leI_iff h2
          have hu : u = .slice none 0 0 := hx.2
          subst hu
          have hz : (vl = none ∧ (0 : Int) = 0 ∨ ∃ k, vl = some (.int k 0)) := by
            cases hll : l with
            | none => exact hlv0 hll
            | some m =>
              have := hlv1 m hll
              rw [hll] at h0 h1
              have hm : m.val = 0 := by simp at h0 h1; omega
              rw [hm] at this
              exact this
          have hn0 : n.val = 0 := by omega
          have := hrun none 0 0 0 hz (fun _ => by simpa using hn0) (Nat.le_refl _) (Int.le_refl _) (by omega) (by simpa using h2)
          rw [hn0] at this
          exact ⟨_, this, CR_c rfl, rfl, rfl⟩
        · subst ho; exact hs.elim
      · subst ho; exact hs.elim
    · rename_i l n hk hl hh
      split at ho
      · rename_i s
        subst ho
        obtain ⟨h0, h1, h2⟩ := hs
        have h0 : (0 : Int) ≤ (l.getD (.lit 0)).val := leI_iff h0
        have h1 := leI_iff h1
        have h2 := h2.ok
        have hu : u = .string (s ()) := hx.2
        subst hu
        have hut := hT.str ht hk
        have hl' := loOf_ok hlo hl
        have hh' := hiOf_ok hhi hh
        have hb := bounds_ok (P := P) (w := w) (isS := false) (len := (s ()).size) (cap := (s ()).size) (lo := vl) (hi := vh) (l := (l.getD (.lit 0)).val) (h := n.val) (by
          rcases hl' with ⟨a, b⟩ | ⟨k, m, a, b⟩
          · rw [b]; exact .inl ⟨a, rfl⟩
          · rw [b]; exact .inr ⟨k, a⟩) (by
          rcases hh' with ⟨a, b⟩ | ⟨k, b⟩
          · simp [lenI, gives, cint, intOfC] at b; exact .inl ⟨a, by rw [← b]; simp [IX.val, addN]⟩
          · exact .inr ⟨k, b⟩) h0 h1 h2 (Nat.le_refl _)
        exact ⟨_, by simp [Instr.sliceAt, Instr.slice, run_underlying hut, hb], ⟨rfl, rfl⟩, rfl, rfl⟩
      · subst ho; exact hs.elim
    · subst ho; exact hs.elim
  · subst ho; exact hs.elim
end prims
end Go.Proofs.YthgllnnlngihoaaGreat.Sx
end
section
set_option linter.unusedVariables false
set_option linter.unusedSimpArgs false
namespace Go.Proofs.YthgllnnlngihoaaGreat.Sx
open Go.RowKit

section prims
variable {P : Program} {T : Tab} {B : Nat} {O : Nat → Prop} {σ : Ren} {M : Mem} {w : World} {base : Nat} {t : TypeId} {ti : TI}

theorem kindIsInt_iff {k : IntKind} (h : isT (kindIsInt ti k)) : ti.kind = .int k := by
  unfold kindIsInt at h
  split at h
  · rename_i k' hk; rw [hk, eqK_iff (isT_iff.1 h)]
  · exact h.elim
theorem convert_ok (hT : TabOk P T) (h : Sim B O σ M w) {src dst : TypeId} {x : IV} {u : Value} (hx : IR σ x u) {out : Out} (ho : convertI T M base src dst x = out) (hs : out.side)
    (hnew : ∀ ob, out.news[0]? = some ob → M base = some ob) (hfree : out.news ≠ [] → σ base = none) :
    ∃ r w' σ', (convert src dst u).run P w = .ok r w' ∧ StepOk B O σ (updL M out.upd) out base w r w' σ' := by
  unfold convertI at ho
  split at ho
  · rename_i ts td hts htd
    split at ho
    · rename_i k0 k k1 n hk0 hk
      subst ho
      have hu : u = .int k1 n.val := hx.2
      subst hu
      have h1 := hT.int hts hk0
      have h2 := hT.int htd hk
      refine ⟨.int k n.val, w, σ, ?_, StepOk.pure h (IR_cint _ _)⟩
      simp [convert, run_underlying h1, run_underlying h2, Conv.intToInt, wrap_fits (fitsX_iff hs)]
    · rename_i e s0 hk0 hk
      split at ho
      · rename_i te he
        subst ho
        obtain ⟨hte, hsz⟩ := hs
        have hte := kindIsInt_iff hte
        have hsz := hsz.ok
        generalize hss0 : s0 () = s at *
        have hu : u = .string s := hss0 ▸ hx.2
        subst hu
        have h1 := hT.str hts hk0
        have h2 := hT.slice htd hk
        have h3 := hT.int he hte
        have hlm : s.size ≤ maxLen := by simp only [maxLen]; omega
        have hr := run_bytes_of_string (P := P) w src dst e s h1 h2 h3
        have hge := grownCap_ge w s.size 0 e
        have hss : s.data.size = s.size := rfl
        have hbs : (bytesRow s (grownCap w s.size 0 e)).size = grownCap w s.size 0 e := by simp [bytesRow, hss]; omega
        refine ⟨_, _, _, hr, StepOk.make (w' := w.drew.alloc _) h ⟨rfl, rfl, rfl, by simp, fun k hk => _root_.Go.heap_alloc_old w.drew _ (by simpa using hk)⟩ rfl (hnew _ rfl) (hfree (by simp [makes])) ?_ (fun _ b hb => by simp [blkOf, addrOf] at hb; omega)⟩
        show RowRel (σ.set base _) (w.drew.alloc _) .mk e 1 s.size (fun n => [CV.i .u8 (.sy fun _ => byteAt s n)]) _
        refine ⟨by omega, w.heap.size, grownCap w s.size 0 e, bytesRow s (grownCap w s.size 0 e), _, rfl, _root_.Go.heap_alloc_new w.drew _, by simp, hge, grownCap_le_maxLen w _ _ _ hlm, by rw [hbs]; omega, ?_⟩
        intro e1 he1
        refine ⟨rfl, fun j c hj => ?_⟩
        have hj0 : j = 0 := by
          rcases Nat.eq_zero_or_pos j with h | h
          · exact h
          · simp [List.getElem?_cons, show j ≠ 0 by omega] at hj
        subst hj0
        have hlt : e1 < s.data.size := by rw [hss]; exact he1
        have hb := bytesRow_at s (grownCap w s.size 0 e) e1 hlt
        refine ⟨_, by simpa using hb, ?_⟩
        simp only [List.getElem?_cons_zero, Option.some.injEq] at hj
        subst hj
        refine ⟨rfl, ?_⟩
        show Value.int .u8 _ = .int .u8 (byteAt s e1)
        unfold byteAt
        rw [List.getD_eq_getElem?_getD, Array.getElem?_toList]
        have hg : s.data[e1]?.getD 0 = s.data[e1] := by rw [Array.getElem?_eq_getElem hlt]; rfl
        rw [hg]
      · subst ho; exact hs.elim
    · rename_i e i hk0 hk
      split at ho
      · rename_i te md tt kk len get he hM
        subst ho
        obtain ⟨hte, hkk, hby⟩ := hs
        have hte := kindIsInt_iff hte
        obtain rfl := Nat.eq_of_beq_eq_true (isT_iff.1 hkk)
        have hby := hby.ok
        have h1 := hT.slice hts hk0
        have h2 := hT.str htd hk
        have h3 := hT.int he hte
        obtain ⟨A, cp, rfl, hlm, hA⟩ := seen_ok (c := .ref i) h hx (by simp [seen, hM])
        have hse : seen M (.ref i) = ⟨True, len, 1, get, [i]⟩ := by simp [seen, hM]
        rw [hse] at hA hlm hx ⊢
        simp only at hA hlm hx ⊢
        have hgo : StepOk B O σ (updL M []) (⟨isT (kindIsInt te .u8) ∧ isT (Nat.beq 1 1) ∧ In fun _ => ∀ n, n < len.val → isByte (get n), .one (.s fun _ => strOf len.val get), [], [], [i]⟩ : Out) base w (.string (strOf len.val get)) w σ := StepOk.pure h ⟨rfl, rfl⟩
        generalize len.val = len at *
        have hres : strOfNums ((List.range len).map fun n => ((byteOf (get n)).toNat : Int)) = strOf len get := by
          unfold strOfNums strOf
          congr 2
          rw [List.map_map]
          apply List.map_congr_left
          intro n _
          simp
        refine ⟨.string (strOf len get), w, σ, ?_, hgo⟩
        rcases Nat.eq_zero_or_pos len with h0 | h0
        · subst h0
          have hnil : (convert src dst (.slice A 0 cp)).run P w = .ok (.string ⟨#[]⟩) w := by
            cases A with
            | none => exact run_convert_bytes_nil w src e h1 h3 0 cp dst h2
            | some a =>
              have := run_convert_bytes_back (P := P) w src dst e a cp [] h1 h3 h2 (fun j hj => by simp at hj)
              simpa using this
          simpa [strOf] using hnil
        · obtain ⟨b, o, rfl, hra⟩ := hA h0
          rw [← hres]
          refine run_convert_bytes_arg (P := P) w src e h1 h3 b o len cp _ (by simp) (fun m hm => ?_) dst h2
          obtain ⟨x, hg, hx0, hx1, hb⟩ := isByte_spec (hby m hm)
          obtain ⟨v, hv, hcr⟩ := (hra m hm).2 0 (.i .u8 x) (by rw [hg]; rfl)
          have : v = .int .u8 x.val := hcr.2
          subst this
          simp only [Nat.mul_one, Nat.add_zero] at hv
          rw [hv]
          congr 2
          rw [List.getD_eq_getElem?_getD]
          simp [hm, hb]
          omega
      · subst ho; exact hs.elim
    · subst ho; exact hs.elim
  · subst ho; exact hs.elim
end prims
end Go.Proofs.YthgllnnlngihoaaGreat.Sx
end
section
set_option linter.unusedVariables false
set_option linter.unusedSimpArgs false
namespace Go.Proofs.YthgllnnlngihoaaGreat.Sx
open Go.RowKit

/-- A function's meaning looks at what it says that it looks at. -/
def Spec.Congr (sp : Spec) : Prop := ∀ args (M M' : Mem) base, (sp args M base).side → (∀ i ∈ (sp args M base).reads, M' i = M i) → sp args M' base = sp args M base

section
variable {T : Tab} {E : EqTab} {Γ : Gam} {M M' : Mem} {base : Nat} {t : TypeId} {ev : Ev}

theorem spot_congr {c : CV} (h : M' (spot M c).i = M (spot M c).i) : spot M' c = spot M c := by
  cases c with
  | ref i =>
    have e : (spot M (.ref i)).i = i := by
      simp only [spot]
      split <;> rfl
    rw [e] at h
    simp only [spot, h]
  | ptr i e j k =>
    have e : (spot M (.ptr i e j k)).i = i := by
      simp only [spot]
      split <;> rfl
    rw [e] at h
    simp only [spot, h]
  | _ => rfl
theorem seen_c (v : Value) : seen M' (.c v) = seen M (.c v) := by
  unfold seen
  split <;> simp_all
theorem lenI_c (v : Value) : lenI M' (.one (.c v)) = lenI M (.one (.c v)) := by
  simp only [lenI, seen_c (M := M) (M' := M') v]
theorem seen_congr {c : CV} (h : ∀ i ∈ (seen M c).reads, M' i = M i) : seen M' c = seen M c := by
  cases c with
  | ref i =>
    have e : i ∈ (seen M (.ref i)).reads := by
      simp only [seen]
      split <;> simp
    simp only [seen, h i e]
  | sub i s n k =>
    have e : i ∈ (seen M (.sub i s n k)).reads := by
      simp only [seen]
      split <;> simp
    simp only [seen, h i e]
  | cut i n =>
    have e : i ∈ (seen M (.cut i n)).reads := by
      simp only [seen]
      split <;> simp
    simp only [seen, h i e]
  | ptr i e j k => rfl
  | c v => exact seen_c v
  | i _ _ => rfl
  | b _ => rfl
  | s _ => rfl
  | top => rfl

/-- The object that a cell looks at. -/
def cvName : CV → Option Nat
  | .ref i | .ptr i _ _ _ | .sub i _ _ _ | .cut i _ => some i
  | _ => none
theorem seen_noname {c : CV} (h : cvName c = none) : seen M' c = seen M c := by
  cases c <;> first | (simp [cvName] at h; done) | exact seen_c _ | rfl
theorem seen_reads {c : CV} {i : Nat} (h : i ∈ (seen M c).reads) : cvName c = some i := by
  cases c with
  | ref j =>
    have : (seen M (.ref j)).reads = [j] := by simp only [seen]; split <;> rfl
    rw [this] at h; simp at h; subst h; rfl
  | sub j s n k =>
    have : (seen M (.sub j s n k)).reads = [j] := by simp only [seen]; split <;> rfl
    rw [this] at h; simp at h; subst h; rfl
  | cut j n =>
    have : (seen M (.cut j n)).reads = [j] := by simp only [seen]; split <;> rfl
    rw [this] at h; simp at h; subst h; rfl
  | c v =>
    unfold seen at h
    split at h <;> simp_all
  | _ => simp [seen] at h
theorem load_congr {x : IV} (hs : (loadI T M t x).side) (h : ∀ i ∈ (loadI T M t x).reads, M' i = M i) : loadI T M' t x = loadI T M t x := by
  unfold loadI at *
  split at hs
  · rename_i c ti ht
    simp only [ht] at h ⊢
    rw [spot_congr (M := M) (M' := M') (h _ (by simp))]
  · exact hs.elim
theorem store_congr {x v : IV} (hs : (storeI T M t x v).side) (h : ∀ i ∈ (storeI T M t x v).reads, M' i = M i) : storeI T M' t x v = storeI T M t x v := by
  unfold storeI at *
  split at hs
  · rename_i c ti ht
    simp only [ht] at h ⊢
    simp only at hs
    split at hs
    · rename_i o ho
      simp only [ho] at h
      have e := h (spot M c).i (by simp)
      rw [spot_congr (M := M) (M' := M') e, e]
      simp only [ho]
    · exact hs.elim
  · exact hs.elim
theorem len_congr {x : IV} (hs : (lenI M x).side) (h : ∀ i ∈ (lenI M x).reads, M' i = M i) : lenI M' x = lenI M x := by
  cases x with
  | one c =>
    cases c with
    | c v => exact lenI_c v
    | s f => rfl
    | _ => simp only [lenI] at h ⊢; rw [seen_congr (M := M) (M' := M') h]
  | _ => rfl
theorem nilCheck_congr {x : IV} (hs : (nilCheckI M x).side) (h : ∀ i ∈ (nilCheckI M x).reads, M' i = M i) : nilCheckI M' x = nilCheckI M x := by
  cases x with
  | one c =>
    cases c with
    | ref i =>
      simp only [nilCheckI] at *
      split at hs
      · rename_i hM; simp only [hM] at h; rw [h i (by simp), hM]
      · rename_i hM; simp only [hM] at h; rw [h i (by simp), hM]
      · exact hs.elim
    | c v => unfold nilCheckI; split <;> first | rfl | simp_all
    | _ => rfl
  | _ => rfl
theorem bin_congr {op : BinOp} {x y : IV} (hs : (binI T E M op t x y).side) (h : ∀ i ∈ (binI T E M op t x y).reads, M' i = M i) : binI T E M' op t x y = binI T E M op t x y := by
  unfold binI at *
  split <;> try rfl
  rename_i i
  simp only at hs h
  split at hs
  · rename_i md tt k len get hM
    simp only [hM] at h
    have e : i ∈ (eqO op (isSliceT T t ∧ notNil md len) (.lit false) [i]).reads := by
      revert hs
      unfold eqO
      cases op <;> simp [bad]
    rw [h i e, hM]
  · exact hs.elim
theorem convert_congr {src dst : TypeId} {x : IV} (hs : (convertI T M base src dst x).side) (h : ∀ i ∈ (convertI T M base src dst x).reads, M' i = M i) : convertI T M' base src dst x = convertI T M base src dst x := by
  unfold convertI at *
  split at hs
  · rename_i ts td hts htd
    simp only [hts, htd] at h ⊢
    split at hs
    · rename_i hk0 hk; simp only [hk0, hk]
    · rename_i hk0 hk; simp only [hk0, hk]
    · rename_i e i hk0 hk
      simp only [hk0, hk] at h ⊢
      split at hs
      · rename_i he hM
        simp only [he, hM] at h ⊢
        rw [h i (by simp), hM]
      · exact hs.elim
    · exact hs.elim
  · exact hs.elim
theorem fieldAddr_congr {x : IV} {f : Nat} (hs : (fieldAddrOp T M t x f).side) (h : ∀ i ∈ (fieldAddrOp T M t x f).reads, M' i = M i) : fieldAddrOp T M' t x f = fieldAddrOp T M t x f := by
  unfold fieldAddrOp at *
  split <;> try rfl
  rename_i i
  simp only at hs h
  split at hs
  · rename_i hM
    simp only [hM] at h
    rw [h i (by simp), hM]
  · exact hs.elim
theorem indexAddr_congr {x y : IV} (hs : (indexAddrOp T M t x y).side) (h : ∀ i ∈ (indexAddrOp T M t x y).reads, M' i = M i) : indexAddrOp T M' t x y = indexAddrOp T M t x y := by
  unfold indexAddrOp at *
  split at hs
  · rename_i ti ht
    simp only [ht] at h ⊢
    split at hs
    · rename_i e hk
      simp only [hk] at h ⊢
      split at hs
      · rename_i te he
        simp only [he] at h ⊢
        unfold indexAddrI at *
        split <;> try rfl
        · rename_i i _ _
          simp only at hs h
          split at hs
          · rename_i hM
            simp only [hM] at h
            rw [h i (by simp), hM]
          · exact hs.elim
        · rename_i i _ _ _
          simp only at hs h
          split at hs
          · rename_i hM
            simp only [hM] at h
            rw [h i (by simp), hM]
          · exact hs.elim
      · exact hs.elim
    · exact hs.elim
  · exact hs.elim
theorem append_congr {x y : IV} (hs : (appendI T M base t x y).side) (h : ∀ i ∈ (appendI T M base t x y).reads, M' i = M i) : appendI T M' base t x y = appendI T M base t x y := by
  unfold appendI at *
  split at hs
  · rename_i ti cx cy ht
    simp only [ht] at h ⊢
    split at hs
    · rename_i e hk
      simp only [hk] at h ⊢
      split at hs
      · rename_i te he
        simp only [he] at h ⊢
        split at hs
        · rw [seen_congr (M := M) (M' := M') h]
        · rename_i i
          simp only at h
          split at hs
          · rename_i hM
            simp only [hM] at h ⊢
            rw [h i (by simp [appendOwnO]), hM]
            simp only
            rw [seen_congr (M := M) (M' := M') (fun j hj => h j (by simp [appendOwnO, hj]))]
          · exact hs.elim
        · exact hs.elim
      · exact hs.elim
    · exact hs.elim
  · exact hs.elim
theorem sliceI_congr {sz : Nat} {c : CV} {l : Option IX} {h : IX} (e : seen M' c = seen M c) : sliceI M' sz (.one c) l h = sliceI M sz (.one c) l h := by
  cases c with
  | c v => unfold sliceI; split <;> first | rfl | simp_all
  | _ => cases l <;> first | rfl | simp only [sliceI, e]
theorem sliceI_reads {sz : Nat} {c : CV} {l : Option IX} {h : IX} {i : Nat} (hi : cvName c = some i) (hs : (sliceI M sz (.one c) l h).side) : i ∈ (sliceI M sz (.one c) l h).reads := by
  cases c <;> cases l <;> simp [cvName] at hi <;> subst hi <;> first | exact hs.elim | simp [sliceI]
theorem slice_congr {x : IV} {lo hi : Option IV} (hs : (sliceOp T M t x lo hi).side) (h : ∀ i ∈ (sliceOp T M t x lo hi).reads, M' i = M i) : sliceOp T M' t x lo hi = sliceOp T M t x lo hi := by
  have key : ∀ c, seen M' c = seen M c → lenI M' (.one c) = lenI M (.one c) → sliceOp T M' t (.one c) lo hi = sliceOp T M t (.one c) lo hi := by
    intro c e e2
    unfold sliceOp
    rw [e2]
    simp only [sliceI_congr (M := M) (M' := M') e]
  cases x with
  | one c =>
    cases hcn : cvName c with
    | none =>
      refine key c (seen_noname hcn) ?_
      cases c <;> first | (simp [cvName] at hcn; done) | exact lenI_c _ | rfl
    | some i =>
      have e : M' i = M i := by
        refine h i ?_
        unfold sliceOp at hs ⊢
        split at hs
        · rename_i ti ht
          try simp only [ht]
          split at hs
          · rename_i e l n hk hl hh
            try simp only [hk, hl, hh]
            split at hs
            · rename_i te he
              try simp only [he]
              exact sliceI_reads hcn hs
            · exact hs.elim
          · rename_i l n hk hl hh
            split at hs
            · rename_i s hs'
              cases hs'
              simp [cvName] at hcn
            · exact hs.elim
          · exact hs.elim
        · exact hs.elim
      have e4 : seen M' c = seen M c := seen_congr fun j hj => by
        have := seen_reads hj
        rw [hcn] at this
        cases this
        exact e
      refine key c e4 ?_
      cases c <;> first | (simp [cvName] at hcn; done) | simp only [lenI, e4]
  | _ => rfl
theorem callee_congr {x : IV} {args : List IV} {g : FuncId} {avs : List IV} {is : List Nat} (hs : calleeI M x args = some (g, avs, is)) (h : ∀ i ∈ is, M' i = M i) : calleeI M' x args = some (g, avs, is) := by
  unfold calleeI at *
  split at hs
  · exact hs
  · rename_i i
    try simp only at hs ⊢
    split at hs
    · rename_i hM
      cases hs
      rw [h i (by simp), hM]
    · cases hs
  · cases hs

theorem call_congr (hΓ : ∀ f sp, Γ f = some sp → sp.Congr) {c : Call} (hs : (callI T Γ ev M base c).side) (h : ∀ i ∈ (callI T Γ ev M base c).reads, M' i = M i) : callI T Γ ev M' base c = callI T Γ ev M base c := by
  unfold callI at *
  split at hs
  · rename_i b hc
    try simp only [hc] at h ⊢
    split at hs
    · try simp only [*] at h ⊢
      rw [len_congr (M := M) (M' := M') hs.2 h]
    · try simp only [*] at h ⊢
      rw [append_congr (M := M) (M' := M') hs.2 h]
    · try simp only [*]
    · try simp only [*]
    · try simp only [*]
    · exact hs.elim
  · rename_i f hc
    try simp only [hc] at h ⊢
    split at hs
    · rename_i g args is hcal
      try simp only [hcal] at h ⊢
      split at hs
      · rename_i sp hg
        try simp only [hg] at h ⊢
        rw [callee_congr (M := M) (M' := M') hcal (fun i hi => h i (by simp [hi]))]
        try simp only [hg]
        rw [hΓ g sp hg args M M' base hs (fun i hi => h i (by simp [hi]))]
      · exact hs.elim
    · exact hs.elim
  · exact hs.elim
theorem evOp_congr (hΓ : ∀ f sp, Γ f = some sp → sp.Congr) {op : Op} (hs : (evOp T E Γ op ev M base).side) (h : ∀ i ∈ (evOp T E Γ op ev M base).reads, M' i = M i) : evOp T E Γ op ev M' base = evOp T E Γ op ev M base := by
  cases op
  case load => exact load_congr hs h
  case store => exact store_congr hs h
  case nilCheck => exact nilCheck_congr hs h
  case binOp => exact bin_congr hs h
  case convert => exact convert_congr hs h
  case slice t x lo hi mx => cases mx with
    | none => exact slice_congr hs h
    | some _ => rfl
  case fieldAddr => exact fieldAddr_congr hs h
  case indexAddr => exact indexAddr_congr hs h
  case call => exact call_congr hΓ hs h
  all_goals rfl
end
end Go.Proofs.YthgllnnlngihoaaGreat.Sx
end
section
set_option linter.unusedVariables false
set_option linter.unusedSimpArgs false
namespace Go.Proofs.YthgllnnlngihoaaGreat.Sx
open Go.RowKit

/-- A function of the program's that has a text. -/
def Enters (P : Program) (f : FuncId) : Prop := ∃ fn c, P.funcs[f]? = some fn ∧ fn.body = some c ∧ (fn.name == "runtime.NumGoroutine") = false

/-- What a function's meaning promises. -/
structure SpecOk (F : Fence) (P : Program) (f : FuncId) (sp : Spec) : Prop where
  congr : sp.Congr
  enters : Enters P f
  calls : ∀ (n : Nat) (B : Nat) (O : Nat → Prop) (σ : Ren) (M : Mem) (w : World) (args : List IV) (vals : List Value) (base : Nat), Sim B O σ M w → All2 (IR σ) args vals → (sp args M base).side →
    (∀ t ob, (sp args M base).news[t]? = some ob → M (base + t) = some ob) → (∀ t, t < (sp args M base).news.length → σ (base + t) = none) →
    CallsIn F n P f vals.toArray w fun
      | .returned v, w' => ∃ σ', StepOk B O σ (updL M (sp args M base).upd) (sp args M base) base w v w' σ'
      | _, _ => False

def GamOk (F : Fence) (P : Program) (Γ : Gam) : Prop := ∀ f sp, Γ f = some sp → SpecOk F P f sp

def needsOp (op : Op) (ev : Ev) : Prop := match op with
  | .pick _ _ _ => True
  | op => needs ev op.operands.toList
theorem needs_mem {ev : Ev} : ∀ {l : List Operand}, needs ev l → ∀ x ∈ l, (ev x).1.val = true
  | x :: r, h, y, hy => by
    rcases List.mem_cons.1 hy with rfl | hy
    · exact isLit_iff h.1
    · exact needs_mem h.2 y hy
  | [], _, y, hy => by cases hy

section
variable {F : Fence} {n : Nat} {P : Program} {T : Tab} {E : EqTab} {Γ : Gam} {B : Nat} {O : Nat → Prop} {σ : Ren} {M : Mem} {w : World} {base : Nat} {ev : Ev}

theorem all_map {ρ : Operand → Value} (hev : ∀ x, (ev x).1.val = true → IR σ (ev x).2 (ρ x)) : ∀ {l : List Operand}, (∀ x ∈ l, (ev x).1.val = true) → All2 (IR σ) (l.map fun x => (ev x).2) (l.map ρ)
  | [], _ => trivial
  | x :: r, h => ⟨hev x (h x (by simp)), all_map hev fun y hy => h y (by simp [hy])⟩
theorem parts_map {ρ : Operand → Value} (hev : ∀ x, (ev x).1.val = true → IR σ (ev x).2 (ρ x)) : ∀ {l : List (Nat × Operand)}, (∀ p ∈ l, (ev p.2).1.val = true) → PartsRel σ (l.map fun p => (p.1, (ev p.2).2)) (l.map fun p => (p.1, ρ p.2))
  | [], _ => trivial
  | x :: r, h => ⟨⟨rfl, hev _ (h x (by simp))⟩, parts_map hev fun y hy => h y (by simp [hy])⟩

/-- A value is what comes. -/
theorem wp_value {o : Oper} {a : Act} {next : Act → World → Prop} {Q : Exit → Act → World → Prop} (hF : ∀ f, F.fn f) (hd : ∀ c, o.op ≠ .defer c) {v : Value} {w' : World} (hr : (execOp a.eval o).run P w = .ok (.value v) w') (hn : next (a.put o.dst v) w') : o.wpIn F n P a w next Q := by
  refine ⟨fun f _ => hF f, ?_⟩
  rw [Oper.semAt_eq _ _ _ hd, hr]
  exact hn
theorem wp_skip {o : Oper} {a : Act} {next : Act → World → Prop} {Q : Exit → Act → World → Prop} (hF : ∀ f, F.fn f) (hd : ∀ c, o.op ≠ .defer c) {w' : World} (hr : (execOp a.eval o).run P w = .ok .skip w') (hn : next (a.put o.dst undef) w') : o.wpIn F n P a w next Q := by
  refine ⟨fun f _ => hF f, ?_⟩
  rw [Oper.semAt_eq _ _ _ hd, hr]
  exact hn

theorem StepOk.pure' (h : Sim B O σ M w) {out : Out} {v : Value} (hr : IR σ out.r v) (hu : out.upd = []) : StepOk B O σ (updL M out.upd) out base w v w σ := by
  rw [hu]
  exact ⟨fun _ _ h => h, fun i u h => .inl h, hr, h, Keep.refl _ _ _⟩

/-- What an operation's run gives, its calls apart. -/
theorem evOp_run (hT : TabOk P T) (hE : EqOk P E) (h : Sim B O σ M w) {o : Oper} {ρ : Operand → Value} (hev : ∀ x, (ev x).1.val = true → IR σ (ev x).2 (ρ x)) (hn : needsOp o.op ev) (hs : (evOp T E Γ o.op ev M base).side)
    (hnew : ∀ t ob, (evOp T E Γ o.op ev M base).news[t]? = some ob → M (base + t) = some ob) (hfree : ∀ t, t < (evOp T E Γ o.op ev M base).news.length → σ (base + t) = none) (hc : ∀ c, o.op = .call c → ∃ b, c.callee = .builtin b) :
    ∃ v w' σ', ((execOp ρ o).run P w = .ok (.value v) w' ∨ (execOp ρ o).run P w = .ok .skip w' ∧ v = undef) ∧ StepOk B O σ (updL M (evOp T E Γ o.op ev M base).upd) (evOp T E Γ o.op ev M base) base w v w' σ' := by
  have hnew0 : ∀ ob, (evOp T E Γ o.op ev M base).news[0]? = some ob → M base = some ob := fun ob h => hnew 0 ob h
  have hfree0 : (evOp T E Γ o.op ev M base).news ≠ [] → σ base = none := fun h => hfree 0 (List.length_pos_iff.2 h)
  have val : ∀ {s : Sem Value} {r : Value} {w' : World} , s.run P w = .ok r w' → (do pure (.value (← s)) : Sem Next).run P w = .ok (.value r) w' := fun h => by simp [h]
  have ops : ∀ x ∈ o.op.operands.toList, (∀ c a b, o.op ≠ .pick c a b) → IR σ (ev x).2 (ρ x) := fun x hx hp => by
    refine hev x (needs_mem ?_ x hx)
    unfold needsOp at hn
    split at hn
    · rename_i h; exact (hp _ _ _ h).elim
    · exact hn
  cases hop : o.op <;> rw [hop] at hs hnew0 hfree0 ops <;> (try exact hs.elim)
  case move x =>
    exact ⟨_, w, σ, .inl (by simp [execOp, hop]), StepOk.pure' h (ops x (by simp [Op.operands]) (by simp)) rfl⟩
  case assign x =>
    exact ⟨_, w, σ, .inl (by simp [execOp, hop]), StepOk.pure' h (ops x (by simp [Op.operands]) (by simp)) rfl⟩
  case alloc t =>
    simp only [evOp] at hs hnew0 hfree0 ⊢
    split at hs
    · rename_i ti ht
      simp only [ht] at hnew0 hfree0 ⊢
      have hz := hT.zeroValue ht w
      have hzc := hT.zeroCells ht
      refine ⟨_, _, _, .inl ?_, box_new h (vs := ti.zero.toArray) (zeroI_rel (hT t ti ht).zone) (hnew0 _ rfl) (hfree0 (by simp [makes]))⟩
      simp [execOp, hop, Instr.alloc, hz, newVar, hzc, newRow]
    · exact hs.elim
  case box t x =>
    simp only [evOp] at hs hnew0 hfree0 ⊢
    have hx := ops x (by simp [Op.operands]) (by simp)
    refine ⟨_, _, _, .inl ?_, box_new h (hx.cells hs) (hnew0 _ rfl) (hfree0 (by simp [makes]))⟩
    simp [execOp, hop, Instr.box, newVar, newRow]
  case build t ps =>
    simp only [evOp] at hs ⊢
    have hp : PartsRel σ (ps.toList.map fun p => (p.1, (ev p.2).2)) (ps.map fun (i, x) => (i, ρ x)).toList := by
      rw [Array.toList_map]
      unfold needsOp at hn
      rw [hop] at hn
      exact parts_map hev fun p hp => needs_mem hn p.2 (by simp [Op.operands]; exact ⟨p.1, by simpa using hp⟩)
    obtain ⟨r, hr, hi, h1, h2⟩ := build_ok hT hp rfl hs
    exact ⟨r, w, σ, .inl (by simp only [execOp, hop]; exact val hr), StepOk.pure' h hi h2⟩
  case buildSlice t len ps =>
    simp only [evOp] at hs hnew0 hfree0 ⊢
    have hp : PartsRel σ (ps.toList.map fun p => (p.1, (ev p.2).2)) (ps.map fun (i, x) => (i, ρ x)).toList := by
      rw [Array.toList_map]
      unfold needsOp at hn
      rw [hop] at hn
      exact parts_map hev fun p hp => needs_mem hn p.2 (by simp [Op.operands]; exact ⟨p.1, by simpa using hp⟩)
    obtain ⟨r, w', σ', hr, hst⟩ := buildSlice_ok hT h hp rfl hs hnew0 hfree0
    exact ⟨r, w', σ', .inl (by simp only [execOp, hop]; exact val hr), hst⟩
  case load t x =>
    simp only [evOp] at hs ⊢
    obtain ⟨r, hr, hi⟩ := load_ok hT h (ops x (by simp [Op.operands]) (by simp)) hs
    refine ⟨r, w, σ, .inl (by simp only [execOp, hop]; exact val hr), StepOk.pure' h hi ?_⟩
    unfold loadI
    split <;> rfl
  case store t x y =>
    simp only [evOp] at hs ⊢
    obtain ⟨w', hr, hst⟩ := store_ok (base := base) hT h (ops x (by simp [Op.operands]) (by simp)) (ops y (by simp [Op.operands]) (by simp)) hs
    exact ⟨undef, w', σ, .inr ⟨by simp only [execOp, hop]; simp [hr], rfl⟩, hst⟩
  case pick c x y =>
    simp only [evOp, pickI] at hs ⊢
    split at hs
    · rename_i z bx by' h1 h2 h3
      try simp only [h1, h2, h3]
      obtain ⟨k1, k23⟩ := hs
      obtain ⟨k2, k3⟩ := k23.ok
      have hc := hev c (isLit_iff k1)
      rw [h1] at hc
      have hcv : ρ c = .bool z.val := hc.2
      refine ⟨bif z.val then ρ x else ρ y, w, σ, .inl (by cases hz : z.val <;> simp [execOp, hop, hcv, hz, asBool]), StepOk.pure' h ?_ rfl⟩
      have hb : (bif z.val then ρ x else ρ y) = .bool (BX.pick z bx by').val := by
        rw [BX.pick_val]
        cases hz : z.val with
        | true =>
          have := hev x (k2 hz)
          rw [h2] at this
          exact this.2
        | false =>
          have := hev y (k3 hz)
          rw [h3] at this
          exact this.2
      rw [hb]
      exact IR_cbool _
    · exact hs.elim
  case nilCheck x =>
    simp only [evOp] at hs ⊢
    obtain ⟨hr, hi, h1, h2⟩ := nilCheck_ok (o := o) (ox := x) h hop rfl (ops x (by simp [Op.operands]) (by simp)) rfl hs
    exact ⟨_, w, σ, .inl hr, StepOk.pure' h hi h2⟩
  case binOp bop t x y m =>
    simp only [evOp] at hs ⊢
    obtain ⟨r, hr, hi, h1, h2⟩ := binOp_ok hT E hE h x y (ops x (by simp [Op.operands]) (by simp)) (ops y (by simp [Op.operands]) (by simp)) rfl hs
    exact ⟨r, w, σ, .inl (by simp only [execOp, hop]; exact val hr), StepOk.pure' h hi h2⟩
  case unOp uop t x =>
    simp only [evOp] at hs ⊢
    obtain ⟨r, hr, hi, h1, h2⟩ := unOp_ok (w := w) (P := P) (ops x (by simp [Op.operands]) (by simp)) rfl hs
    exact ⟨r, w, σ, .inl (by simp only [execOp, hop]; exact val hr), StepOk.pure' h hi h2⟩
  case convert src dst x =>
    simp only [evOp] at hs hnew0 hfree0 ⊢
    obtain ⟨r, w', σ', hr, hst⟩ := convert_ok hT h (ops x (by simp [Op.operands]) (by simp)) rfl hs hnew0 hfree0
    exact ⟨r, w', σ', .inl (by simp only [execOp, hop]; exact val hr), hst⟩
  case makeFunc fn first cap =>
    simp only [evOp] at hs hnew0 hfree0 ⊢
    have hf := all_map hev (l := first.toList) fun x hx => by
      unfold needsOp at hn; rw [hop] at hn
      exact needs_mem hn x (by simp [Op.operands]; exact .inl (by simpa using hx))
    have hcp := all_map hev (l := cap.toList) fun x hx => by
      unfold needsOp at hn; rw [hop] at hn
      exact needs_mem hn x (by simp [Op.operands]; exact .inr (by simpa using hx))
    obtain ⟨σ', hr, hst⟩ := makeFunc_ok (P := P) (us := first.map ρ) (vs := cap.map ρ) h (by simpa using hf) (by simpa using hcp) rfl hs hnew0 hfree0
    exact ⟨_, w, σ', .inl (by simp only [execOp, hop]; exact val hr), hst⟩
  case makeSlice t x y =>
    simp only [evOp] at hs hnew0 hfree0 ⊢
    obtain ⟨r, w', σ', hr, hst⟩ := makeSlice_ok hT h (ops x (by simp [Op.operands]) (by simp)) (ops y (by simp [Op.operands]) (by simp)) rfl hs hnew0 hfree0
    exact ⟨r, w', σ', .inl (by simp only [execOp, hop]; exact val hr), hst⟩
  case slice t x lo hi mx =>
    cases mx with
    | some _ => exact hs.elim
    | none =>
      simp only [evOp] at hs ⊢
      have ho : ∀ (z : Option Operand), (∀ y, z = some y → y ∈ (Op.slice t x lo hi none).operands.toList) → OptRel σ (z.map fun y => (ev y).2) (z.map ρ) := by
        intro z hz
        cases z with
        | none => trivial
        | some y => exact ops y (hz y rfl) (by simp)
      obtain ⟨r, hr, hi', h1, h2⟩ := slice_ok hT h (ops x (by simp [Op.operands]) (by simp)) (ho lo fun y hy => by subst hy; simp [Op.operands]) (ho hi fun y hy => by subst hy; simp [Op.operands]) rfl hs
      exact ⟨r, w, σ, .inl (by simp only [execOp, hop]; exact val hr), StepOk.pure' h hi' h2⟩
  case fieldAddr s x f =>
    simp only [evOp] at hs ⊢
    have hx := ops x (by simp [Op.operands]) (by simp)
    have key : ∃ r, (Instr.fieldAt s (ρ x) f).run P w = .ok r w ∧ IR σ (fieldAddrOp T M s (ev x).2 f).r r ∧ (fieldAddrOp T M s (ev x).2 f).upd = [] := by
      unfold fieldAddrOp at hs ⊢
      split at hs
      · rename_i i he
        simp only [he] at hs hx ⊢
        split at hs
        · rename_i hM
          simp only [hM] at hs ⊢
          obtain ⟨r, hr, hi, h1, h2⟩ := fieldAddr_ok hT h hx rfl hs (fun j hj => by cases hj; exact ⟨_, _, _, hM⟩)
          exact ⟨r, hr, hi, h2⟩
        · exact hs.elim
      · rename_i hne
        obtain ⟨r, hr, hi, h1, h2⟩ := fieldAddr_ok hT h hx rfl hs (fun j hj => (hne j hj).elim)
        exact ⟨r, hr, hi, h2⟩
    obtain ⟨r, hr, hi, h2⟩ := key
    exact ⟨r, w, σ, .inl (by simp only [execOp, hop]; exact val hr), StepOk.pure' h hi h2⟩
  case field t x f =>
    simp only [evOp] at hs ⊢
    obtain ⟨r, hr, hi, h1, h2⟩ := field_ok (P := P) (w := w) hT (ops x (by simp [Op.operands]) (by simp)) rfl hs
    exact ⟨r, w, σ, .inl (by simp only [execOp, hop]; exact val hr), StepOk.pure' h hi h2⟩
  case indexAddr t x y =>
    simp only [evOp] at hs ⊢
    obtain ⟨r, hr, hi, h1, h2⟩ := indexAddr_ok hT h (ops x (by simp [Op.operands]) (by simp)) (ops y (by simp [Op.operands]) (by simp)) rfl hs
    exact ⟨r, w, σ, .inl (by simp only [execOp, hop]; exact val hr), StepOk.pure' h hi h2⟩
  case index t x y =>
    simp only [evOp] at hs ⊢
    obtain ⟨r, hr, hi, h1, h2⟩ := index_ok (P := P) (w := w) hT (ops x (by simp [Op.operands]) (by simp)) (ops y (by simp [Op.operands]) (by simp)) rfl hs.2 (fun s he => by have := hs.1; rw [he] at this; exact this)
    exact ⟨r, w, σ, .inl (by simp only [execOp, hop]; exact val hr), StepOk.pure' h hi h2⟩
  case extract x ix =>
    simp only [evOp] at hs ⊢
    obtain ⟨r, hr, hi, h1, h2⟩ := extract_ok (P := P) (w := w) (ops x (by simp [Op.operands]) (by simp)) rfl hs
    exact ⟨r, w, σ, .inl (by simp only [execOp, hop]; exact val hr), StepOk.pure' h hi h2⟩
  case call c =>
    obtain ⟨b, hb⟩ := hc c hop
    have hopd : ∀ x ∈ c.args.toList, IR σ (ev x).2 (ρ x) := fun x hx => ops x (show x ∈ (Call.operands c).toList by simpa [Call.operands, hb] using hx) (by simp)
    have hargs : ∀ l, c.args.toList = l → c.args.map ρ = (l.map ρ).toArray := fun l hl => by rw [← hl]; exact Array.ext' (Array.toList_map)
    have htys : ∀ l, c.argTypes.toList = l → c.argTypes = l.toArray := fun l hl => by rw [← hl]
    have hexec : execOp ρ o = builtin b c.argTypes o.type (c.args.map fun | .const _ => true | _ => false) (c.args.map ρ) := by
      simp only [execOp, hop, resolve, hb]
      rfl
    simp only [evOp] at hs hnew0 hfree0 ⊢
    unfold callI at hs hnew0 hfree0 ⊢
    simp only [hb] at hs hnew0 hfree0 ⊢
    split at hs
    · rename_i x t ha ht
      simp only [ha, ht] at hnew0 hfree0 ⊢
      have hx := hopd x (by rw [ha]; simp)
      obtain ⟨r, hr, hi, h1, h2⟩ := lenTy_ok hT h o.type hx rfl hs
      refine ⟨r, w, σ, .inl ?_, StepOk.pure' h hi h2⟩
      rw [hexec, hargs _ ha, htys _ ht]
      exact val hr
    · rename_i x y t t' ha ht
      simp only [ha, ht] at hnew0 hfree0 ⊢
      obtain ⟨htt, hs⟩ := hs
      obtain rfl := Nat.eq_of_beq_eq_true (isT_iff.1 htt)
      have hx := hopd x (by rw [ha]; simp)
      have hy := hopd y (by rw [ha]; simp)
      obtain ⟨r, w', σ', hr, hst⟩ := append_ok hT h o.type hx hy rfl hs hnew0 hfree0
      refine ⟨r, w', σ', .inl ?_, ⟨hst.le, hst.dom, hst.r, hst.sim, hst.keep⟩⟩
      rw [hexec, hargs _ ha, htys _ ht]
      exact val hr
    · rename_i _ x y ha
      simp only [ha] at hnew0 hfree0 ⊢
      have hx := hopd x (by rw [ha]; simp)
      have hy := hopd y (by rw [ha]; simp)
      obtain ⟨r, hr, hi, h1, h2⟩ := max_ok (P := P) (w := w) #[] 0 hx hy hs
      refine ⟨r, w, σ, .inl ?_, StepOk.pure' h hi h2⟩
      rw [hexec, hargs _ ha]
      exact val (s := Builtin.max_ _ _ _) (by simp [Builtin.max_, hr])
    · rename_i _ x y ha
      simp only [ha] at hnew0 hfree0 ⊢
      have hx := hopd x (by rw [ha]; simp)
      have hy := hopd y (by rw [ha]; simp)
      obtain ⟨r, hr, hi, h1, h2⟩ := min_ok (P := P) (w := w) #[] 0 hx hy hs
      refine ⟨r, w, σ, .inl ?_, StepOk.pure' h hi h2⟩
      rw [hexec, hargs _ ha]
      exact val (s := Builtin.min_ _ _ _) (by simp [Builtin.min_, hr])
    · rename_i _ x y z ha
      simp only [ha] at hnew0 hfree0 ⊢
      obtain ⟨hs1, hs2⟩ := hs
      have hx := hopd x (by rw [ha]; simp)
      have hy := hopd y (by rw [ha]; simp)
      have hz := hopd z (by rw [ha]; simp)
      obtain ⟨r1, hr1, hi1, _, _⟩ := max_ok (P := P) (w := w) #[] 0 hx hy hs1
      obtain ⟨r, hr, hi, h1, h2⟩ := max_ok (P := P) (w := w) #[] 0 hi1 hz hs2
      refine ⟨r, w, σ, .inl ?_, StepOk.pure' h hi h2⟩
      rw [hexec, hargs _ ha]
      exact val (s := Builtin.max_ _ _ _) (by simp [Builtin.max_, hr1, hr])
    · exact hs.elim

/-- AN OPERATION RUNS AS IT IS MEANT. -/
theorem evOp_wp (hF : ∀ f, F.fn f) (hD : F.depth = none) (hT : TabOk P T) (hE : EqOk P E) (hΓ : GamOk F P Γ) (h : Sim B O σ M w) {o : Oper} {a : Act} (hev : ∀ x, (ev x).1.val = true → IR σ (ev x).2 (a.eval x)) (hn : needsOp o.op ev) (hs : (evOp T E Γ o.op ev M base).side)
    (hnew : ∀ t ob, (evOp T E Γ o.op ev M base).news[t]? = some ob → M (base + t) = some ob) (hfree : ∀ t, t < (evOp T E Γ o.op ev M base).news.length → σ (base + t) = none)
    {next : Act → World → Prop} {Q : Exit → Act → World → Prop} (k : ∀ v w' σ', StepOk B O σ (updL M (evOp T E Γ o.op ev M base).upd) (evOp T E Γ o.op ev M base) base w v w' σ' → next (a.put o.dst v) w') : o.wpIn F n P a w next Q := by
  have hdf : ∀ c, o.op ≠ .defer c := fun c hc => by rw [hc] at hs; exact hs.elim
  by_cases hcall : ∃ c f, o.op = .call c ∧ c.callee = .value f
  · obtain ⟨c, f, hop, hcf⟩ := hcall
    rw [hop] at hs hnew hfree k
    have hopd : ∀ x ∈ f :: c.args.toList, IR σ (ev x).2 (a.eval x) := fun x hx => hev x (by
      unfold needsOp at hn
      rw [hop] at hn
      refine needs_mem hn x ?_
      simp only [Op.operands, Call.operands, hcf]
      simpa using hx)
    simp only [evOp] at hs hnew hfree k
    unfold callI at hs hnew hfree k
    simp only [hcf] at hs hnew hfree k
    split at hs
    · rename_i g args is hcal
      simp only [hcal] at hnew hfree k
      split at hs
      · rename_i sp hg
        simp only [hg] at hs hnew hfree k
        have hsp := hΓ g sp hg
        obtain ⟨fn, cd, hf1, hf2, hf3⟩ := hsp.enters
        have hav : All2 (IR σ) (c.args.toList.map fun x => (ev x).2) (c.args.toList.map a.eval) := by
          have : ∀ l : List Operand, (∀ x ∈ l, IR σ (ev x).2 (a.eval x)) → All2 (IR σ) (l.map fun x => (ev x).2) (l.map a.eval) := by
            intro l
            induction l with
            | nil => intro _; trivial
            | cons x r ih => intro h; exact ⟨h x (by simp), ih fun y hy => h y (by simp [hy])⟩
          exact this _ fun x hx => hopd x (by simp [hx])
        have one : ∀ (l : List CV) (vs : List Value), All2 (CR σ) l vs → All2 (IR σ) (l.map .one) vs := by
          intro l
          induction l with
          | nil => intro vs h; cases vs with
            | nil => trivial
            | cons _ _ => exact h.elim
          | cons x r ih => intro vs h; cases vs with
            | nil => exact h.elim
            | cons _ _ => exact ⟨h.1, ih _ h.2⟩
        have hf4 : ¬ fn.name = "runtime.NumGoroutine" := by simpa using hf3
        have hl0 : c.args.map a.eval = (c.args.toList.map a.eval).toArray := Array.ext' (Array.toList_map)
        obtain ⟨vals, hres, hrel⟩ : ∃ vals : List Value, (execOp a.eval o).run P w = .ok (.enter g vals.toArray) w ∧ All2 (IR σ) args vals := by
          have hff := hopd f (by simp)
          unfold calleeI at hcal
          split at hcal
          · rename_i g' hfe
            cases hcal
            rw [hfe] at hff
            have hfv : a.eval f = .func (.func g) #[] #[] := hff.2
            refine ⟨c.args.toList.map a.eval, ?_, hav⟩
            simp only [execOp, hop, resolve, hcf, hl0]
            generalize c.args.toList.map a.eval = la
            simp [hfv, Deferred.ofValue, invoke, callFunc, hf1, hf2, hf4]
          · rename_i i hfe
            rw [hfe] at hff
            split at hcal
            · rename_i g' first cap hM
              cases hcal
              obtain ⟨ob, hM', hr⟩ := h.ob i _ hff.2
              rw [hM] at hM'
              cases hM'
              obtain ⟨f', c', hfv, h1, h2⟩ := hr
              refine ⟨f' ++ c.args.toList.map a.eval ++ c', ?_, ((one _ _ h1).append hav).append (one _ _ h2)⟩
              simp only [execOp, hop, resolve, hcf, hl0]
              generalize c.args.toList.map a.eval = la
              simp [hfv, Deferred.ofValue, invoke, callFunc, hf1, hf2, hf4]
            · cases hcal
          · cases hcal
        refine ⟨fun f _ => hF f, ?_⟩
        rw [Oper.semAt_eq _ _ _ hdf, hres]
        refine ⟨fun hd => by simp [hD] at hd, ?_⟩
        refine (hsp.calls (n - 1) B O σ M w args vals base h hrel hs hnew hfree).mono fun e w' he => ?_
        cases e with
        | returned v =>
          obtain ⟨σ', hst⟩ := he
          exact k v w' σ' ⟨hst.le, hst.dom, hst.r, hst.sim, hst.keep⟩
        | panicked c => exact he.elim
        | outgrown => exact he.elim
      · exact hs.elim
    · exact hs.elim
  · obtain ⟨v, w', σ', hr, hst⟩ := evOp_run hT hE h hev hn hs hnew hfree (fun c hc => by
      cases hb : c.callee with
      | builtin b => exact ⟨b, rfl⟩
      | value f => exact (hcall ⟨c, f, hc, hb⟩).elim
      | invoke r nm => rw [hc] at hs; simp only [evOp, callI, hb] at hs; exact hs.elim)
    rcases hr with hr | ⟨hr, rfl⟩
    · exact wp_value hF hdf hr (k _ _ _ hst)
    · exact wp_skip hF hdf hr (k _ _ _ hst)
end
end Go.Proofs.YthgllnnlngihoaaGreat.Sx
end
