/- The library's functions on lists of integers, by the kit's contracts; Check; given; Fits, telling, Places, Heights, Letters. (Printed by gene4.py.); The example life; the first sight not before a year; SameTexts. -/
import Derived.Sort.OwnSortedInts
import Derived.Test.YthgllnnlngihoaaGreatSz09
section
set_option linter.unusedVariables false
set_option linter.unusedSimpArgs false
set_option maxRecDepth 100000
namespace Go.Proofs.YthgllnnlngihoaaGreat.Sx
open Go.RowKit Go.Sort

def sortI (zs : List Int) : List Int := zs.mergeSort fun x y => decide (x ≤ y)
theorem sortI_len (zs : List Int) : (sortI zs).length = zs.length := List.length_mergeSort ..
section
variable {B : Nat} {O : Nat → Prop} {σ : Ren} {M : Mem} {w : World}
/-- What a slice of integers holds. -/
theorem ints_cells (h : Sim B O σ M w) {c : CV} {v : Value} (hv : CR σ c v) (hok : okInts M c) :
    ∃ A cp, v = .slice A (ints M c).length cp ∧ (ints M c).length ≤ cp ∧ cp ≤ maxLen ∧ (0 < (ints M c).length → ∃ b o, A = some ⟨b, o, none⟩ ∧ ∀ j, j < (ints M c).length → w.cell? ⟨b, o + j, none⟩ = some (.int .i64 ((ints M c).getD j 0))) := by
  have := loc_row (σ' := σ) intCod h hv hok
  obtain ⟨A, cp, e, h1, h2, h3, h4⟩ := this
  refine ⟨A, cp, e, h1, h2, fun hl => ?_⟩
  obtain ⟨b, o, e2, hr⟩ := h4 hl
  refine ⟨b, o, e2, fun j hj => ?_⟩
  obtain ⟨u, hu, hcr⟩ := (hr j hj).2 0 _ rfl
  have e3 : u = .int .i64 ((ints M c).getD j 0) := hcr.2
  have hu : w.cell? ⟨b, o + (j * 1 + 0), none⟩ = some u := hu
  rw [show j * 1 + 0 = j by omega, e3] at hu
  exact hu
theorem own_ints (h : Sim B O σ M w) {i : Nat} {hv : Value} {t : TypeId} {k : Nat} {len : NX} {get : Nat → List CV} (hi : σ i = some hv) (hM : M i = some (.row .own t k len get)) (hk : k = 1) (hok : okInts M (.ref i)) :
    (ints M (.ref i)).length = len.val ∧ ((hv = .slice none 0 0 ∧ len.val = 0) ∨ ∃ g cap cur, hv = .slice (some ⟨g, 0, none⟩) len.val cap ∧ w.heap[g]? = some (.cells cur t (0, 0)) ∧ len.val ≤ cap ∧ cap ≤ maxLen ∧ cur.size = cap * 1 ∧ Holds (Value.int .i64) w g 0 (ints M (.ref i)).toArray) := by
  subst hk
  have hs : seen M (.ref i) = ⟨True, len, 1, get, [i]⟩ := by simp [seen, hM]
  have hlen : (ints M (.ref i)).length = len.val := by unfold ints; rw [hs]; exact listOf_len _ _
  refine ⟨hlen, ?_⟩
  obtain ⟨ob, hM', hr⟩ := h.ob i hv hi
  rw [hM] at hM'
  cases hM'
  obtain ⟨_, ⟨e, hl⟩ | ⟨g, cap, cur, e, hg, h1, h2, h3, hra⟩⟩ := hr
  · exact .inl ⟨e, hl⟩
  · refine .inr ⟨g, cap, cur, e, hg, h1, h2, h3, fun j hj => ?_⟩
    have hone : hv.oneCell' = true := by rw [e]; rfl
    obtain ⟨A, cp, e2, _, _, hc⟩ := ints_cells h (c := .ref i) ⟨hone, hi⟩ hok
    have hj' : j < (ints M (.ref i)).length := by simpa using hj
    obtain ⟨b, o, e3, hcell⟩ := hc (by omega)
    have eA : A = some ⟨g, 0, none⟩ := by rw [e] at e2; injection e2 with q; exact q.symm
    rw [eA] at e3
    cases e3
    have := hcell j hj'
    refine ⟨?_, by simp [World.frozen?, hg]⟩
    rw [this]
    simp [List.getD_eq_getElem?_getD, hj']
end
def intRowT (t : TypeId) (xs : Unit → List Int) : Ob := .row .own t 1 (.sy (fun _ => (xs ()).length) 0) fun e => encInt fun _ => (xs ()).getD e intD
/-- slices.Sort: in its place. -/
def spSort : Spec := fun args M _ => match args with
  | [.one (.ref i)] => match M i with
    | some (.row .own t k len get) => ⟨isT (Nat.beq k 1) ∧ In fun _ => okInts M (.ref i) ∧ (ints M (.ref i)).length ≤ 140737488355328, .tup [], [], [(i, intRowT t fun _ => sortI (ints M (.ref i)))], [i]⟩
    | _ => bad
  | _ => bad
theorem congrSort : spSort.Congr := by
  intro args M M' base hs h
  unfold spSort at *
  split at hs
  · rename_i i
    simp only at h hs ⊢
    split at hs
    · rename_i hM
      simp only [hM] at h
      have e := h i (by simp)
      rw [e, hM]
      simp only [okInts, ints]
      have : seen M' (.ref i) = seen M (.ref i) := by simp [seen, e, hM]
      rw [this]
    · exact hs.elim
  · exact hs.elim
theorem enters82 : Enters Tryz.prog 82 := ⟨Tryz.f82, fbody Tryz.f82, by kernel_rfl, rfl, rfl⟩
theorem okSort : SpecOk F0 Tryz.prog 82 spSort := by
  refine ⟨congrSort, enters82, fun n B O σ M w args vals base hS ha hs hnew hfree => ?_⟩
  unfold spSort at hs hnew hfree ⊢
  split at hs
  · rename_i i
    split at hs
    · rename_i t k len get hM
      obtain ⟨hk, hok⟩ := hs
      obtain ⟨hok, hsz⟩ := hok.ok
      have hk := Nat.eq_of_beq_eq_true (isT_iff.1 hk)
      simp only [hM]
      match vals, ha with
      | [v], ha =>
        have hi : σ i = some v := ha.1.2
        obtain ⟨hlen, hc⟩ := own_ints hS hi hM hk hok
        refine callsIn_wide.2 ?_
        rcases hc with ⟨rfl, hl⟩ | ⟨g, cap, cur, rfl, hg, h1, h2, h3, hH⟩
        · refine (Tryz.slices_Sort_int_none none 0 w).mono fun e w' h => ?_
          obtain ⟨rfl, rfl⟩ := h
          have hnil : ints M (.ref i) = [] := List.eq_nil_of_length_eq_zero (by omega)
          refine ⟨σ, Ren.le.refl σ, fun j u hu => .inl hu, ⟨[], rfl, trivial⟩, ?_, Keep.refl _ _ _⟩
          have hl0 : (sortI (ints M (.ref i))).length = 0 := by rw [sortI_len]; omega
          refine ⟨fun j hv hj => ?_, fun j q hj hq oj oq b hne sj sq mj mq ho hocc bj bq => ?_, fun j hj oj b sj mj ho bj => ?_, hS.size⟩
          · by_cases e : j = i
            · subst e
              rw [hi] at hj
              cases hj
              exact ⟨_, updM_same _ _ _, by decide, .inl ⟨rfl, hl0⟩⟩
            · obtain ⟨ob, h1, h2⟩ := hS.ob j hv hj
              exact ⟨ob, by rw [show updL M [(i, intRowT t fun _ => sortI (ints M (.ref i)))] j = M j from updM_other _ _ e]; exact h1, h2⟩
          · by_cases e : j = i
            · subst e
              rw [hi] at sj
              cases sj
              simp [blkOf, addrOf] at bj
            · by_cases e2 : q = i
              · subst e2
                rw [hi] at sq
                cases sq
                simp [blkOf, addrOf] at bq
              · exact hS.sep j q hj hq oj oq b hne sj sq ((updM_other _ _ e).symm.trans mj) ((updM_other _ _ e2).symm.trans mq) ho hocc bj bq
          · by_cases e : j = i
            · subst e
              rw [hi] at sj
              cases sj
              simp [blkOf, addrOf] at bj
            · exact hS.own j hj oj b sj ((updM_other _ _ e).symm.trans mj) ho bj
        · have hlt : g < w.heap.size := (Array.getElem?_eq_some_iff.1 hg).1
          have := Tryz.slices_Sort_int g 0 cap (ints M (.ref i)) w hH hlt (by omega)
          rw [hlen] at this
          refine this.mono fun e w' h => ?_
          obtain ⟨rfl, n, os, rfl⟩ := h
          refine ⟨σ, Ren.le.refl σ, fun j u hu => .inl hu, ⟨[], rfl, trivial⟩, ?_, ?_⟩
          · have hw1 : Sim B O σ (updM M i (intRowT t fun _ => sortI (ints M (.ref i)))) (putRow (Value.int .i64) (Sort.ahead w n) g 0 (sortI (ints M (.ref i))).toArray) := by
              have hpg : (putRow (Value.int .i64) (Sort.ahead w n) g 0 (sortI (ints M (.ref i))).toArray).heap[g]? = some (.cells (putCells (Value.int .i64) 0 (sortI (ints M (.ref i))).toArray cur) t (0, 0)) := by
                simp [putRow, mapBlock, Sort.ahead, Array.getElem?_modify, hg, onCells]
              refine hS.write hi hM rfl rfl (fun q hq => ?_) (by simp [Sort.ahead]) ⟨by decide, .inr ⟨g, cap, _, ?_, hpg, ?_, h2, by simp [putCells, h3], fun e he => ⟨rfl, fun j c hj => ?_⟩⟩⟩
              · have : g ≠ q := fun e => hq e.symm
                simp [putRow, mapBlock, Sort.ahead, Array.getElem?_modify, this]
              · show Value.slice _ len.val cap = Value.slice _ (sortI (ints M (.ref i))).length cap
                rw [sortI_len, hlen]
              · show (sortI (ints M (.ref i))).length ≤ cap
                rw [sortI_len, hlen]
                exact h1
              · have he : e < (sortI (ints M (.ref i))).length := he
                have hlc : (sortI (ints M (.ref i))).length ≤ cur.size := by rw [sortI_len, hlen]; omega
                match j, hj with
                | 0, hj =>
                  cases hj
                  refine ⟨.int .i64 ((sortI (ints M (.ref i))).getD e 0), ?_, ⟨rfl, rfl⟩⟩
                  have := take_putCellsI cur (sortI (ints M (.ref i))) hlc
                  have h5 : ((putCells (Value.int .i64) 0 (sortI (ints M (.ref i))).toArray cur).toList.take (sortI (ints M (.ref i))).length)[e]? = ((sortI (ints M (.ref i))).map (Value.int .i64))[e]? := by rw [this]
                  rw [List.getElem?_take_of_lt he, Array.getElem?_toList] at h5
                  show (putCells (Value.int .i64) 0 (sortI (ints M (.ref i))).toArray cur)[e * 1 + 0]? = _
                  rw [show e * 1 + 0 = e by omega, h5]
                  simp [he, List.getD_eq_getElem?_getD]
            exact hw1.below ⟨rfl, rfl, rfl, by simp [grow], fun q hq => heap_grow_old _ _ hq⟩
          · refine ⟨rfl, rfl, rfl, by simp [grow, Sort.ahead], fun q hq hO => ?_⟩
            have hb := hS.own i _ _ g hi hM rfl rfl
            have hne : g ≠ q := fun e => by
              subst e
              rcases hb with hb | hb
              · omega
              · exact hO hb
            have hqs : q < w.heap.size := Nat.lt_of_lt_of_le hq hS.size
            rw [heap_grow_old _ _ (by simpa [Sort.ahead] using hqs)]
            simp [putRow, mapBlock, Sort.ahead, Array.getElem?_modify, hne]
    · exact hs.elim
  · exact hs.elim

/-- slices.Clone: a row of one's own. -/
def spClone : Spec := fun args M base => match args with
  | [.one c] => ⟨In fun _ => okInts M c ∧ (ints M c).length * 8 ≤ 140737488355328, .one (.ref base), [intRowT 3 fun _ => ints M c], [], (seen M c).reads⟩
  | _ => bad
theorem congrClone : spClone.Congr := by
  intro args M M' base hs h
  unfold spClone at *
  split at hs
  · simp only [ints, okInts] at h ⊢
    rw [seen_congr (M := M) (M' := M') h]
  · exact hs.elim
theorem enters84 : Enters Tryz.prog 84 := ⟨Tryz.f84, fbody Tryz.f84, by kernel_rfl, rfl, rfl⟩
theorem own_of_row {σ : Ren} {w : World} {B : Nat} {zs : List Int} {v : Value} (h : w.ownsRow B 3 1 v zs.length (zs.map (Value.int .i64))) : ObRel σ w (intRowT 3 fun _ => zs) v := by
  obtain ⟨_, ⟨e, hn⟩ | ⟨g, cap, cur, e, _, hg, h1, h2, h3, h4⟩⟩ := h
  · exact ⟨by decide, .inl ⟨e, hn⟩⟩
  · refine ⟨by decide, .inr ⟨g, cap, cur, e, hg, h1, h2, h3, fun e he => ⟨rfl, fun j c hj => ?_⟩⟩⟩
    have he : e < zs.length := he
    match j, hj with
    | 0, hj =>
      cases hj
      refine ⟨.int .i64 (zs.getD e 0), ?_, ⟨rfl, rfl⟩⟩
      have h5 : (cur.toList.take (zs.length * 1))[e]? = (zs.map (Value.int .i64))[e]? := by rw [h4]
      rw [Nat.mul_one, List.getElem?_take_of_lt he, Array.getElem?_toList] at h5
      show cur[e * 1 + 0]? = _
      rw [show e * 1 + 0 = e by omega, h5]
      simp [he, List.getD_eq_getElem?_getD]
theorem okClone : SpecOk F0 Tryz.prog 84 spClone := by
  refine ⟨congrClone, enters84, fun n B O σ M w args vals base hS ha hs hnew hfree => ?_⟩
  unfold spClone at hs hnew hfree ⊢
  split at hs
  · rename_i c
    obtain ⟨hok, hsz⟩ := hs.ok
    match vals, ha with
    | [v], ha =>
      obtain ⟨A, cp, rfl, h1, h2, h3⟩ := ints_cells hS ha.1 hok
      refine callsIn_wide.2 ?_
      have hMb : M base = some (intRowT 3 fun _ => ints M c) := hnew 0 _ rfl
      have hσb : σ base = none := hfree 0 (by simp)
      -- what is new, told
      have fin : ∀ (v' : Value) (w' : World), w'.ownsRow w.heap.size 3 1 v' (ints M c).length ((ints M c).map (Value.int .i64)) → Below w.heap.size w w' → ∃ σ', StepOk B O σ (updL M []) ⟨In fun _ => okInts M c ∧ (ints M c).length * 8 ≤ 140737488355328, .one (.ref base), [intRowT 3 fun _ => ints M c], [], (seen M c).reads⟩ base w v' w' σ' := fun v' w' ho hb => by
        refine ⟨_, StepOk.make hS hb ?_ hMb hσb (own_of_row ho) fun _ b hbk => ?_⟩
        · obtain ⟨_, ⟨e, _⟩ | ⟨g, cap, cur, e, _⟩⟩ := ho <;> rw [e] <;> rfl
        · obtain ⟨_, ⟨e, _⟩ | ⟨g, cap, cur, e, hge, _⟩⟩ := ho
          · rw [e] at hbk; simp [blkOf, addrOf] at hbk
          · rw [e] at hbk; simp [blkOf, addrOf] at hbk; omega
      have hone : (Value.slice A (ints M c).length cp).oneCell' = true := rfl
      rcases Nat.eq_zero_or_pos (ints M c).length with h0 | h0
      · have hnil : ints M c = [] := List.eq_nil_of_length_eq_zero h0
        cases A with
        | none =>
          refine (Tryz.slices_Clone_int_nil (ints M c).length cp w).mono fun e w' h => ?_
          obtain ⟨rfl, rfl⟩ := h
          exact fin _ _ ⟨by simp, .inl ⟨rfl, h0⟩⟩ (Below.refl _ _)
        | some a =>
          rw [show Value.slice (some a) (ints M c).length cp = Value.slice (some a) 0 cp by rw [h0]]
          refine (Tryz.slices_Clone_int_zero a cp w).mono fun e w' h => ?_
          obtain ⟨v', rfl, ho, _, hb⟩ := h
          exact fin _ _ (by rw [hnil]; exact ho) hb
      · obtain ⟨b, o, rfl, hc⟩ := h3 h0
        refine (Tryz.slices_Clone_int b o (ints M c).length cp (ints M c) w (Nat.le_refl _) hsz hc).mono fun e w' h => ?_
        obtain ⟨v', rfl, ho, _, hb⟩ := h
        rw [List.take_length] at ho
        exact fin _ _ ho hb
  · exact hs.elim

/-- slices.Compact: in its place; a head of it. -/
def compI (zs : List Int) : List Int := Lib.compact zs
def compRow (zs : List Int) : List Int := Lib.compact zs ++ List.replicate (zs.length - (Lib.compact zs).length) 0
def spCompact : Spec := fun args M _ => match args with
  | [.one (.ref i)] => match M i with
    | some (.row .own t k len get) => ⟨isT (Nat.beq k 1) ∧ In fun _ => okInts M (.ref i) ∧ (ints M (.ref i)).length ≤ 140737488355328, .one (.cut i (.sy (fun _ => (compI (ints M (.ref i))).length) 0)), [], [(i, intRowT t fun _ => compRow (ints M (.ref i)))], [i]⟩
    | _ => bad
  | _ => bad
theorem congrCompact : spCompact.Congr := by
  intro args M M' base hs h
  unfold spCompact at *
  split at hs
  · rename_i i
    simp only at h hs ⊢
    split at hs
    · rename_i hM
      simp only [hM] at h
      have e := h i (by simp)
      rw [e, hM]
      simp only [okInts, ints]
      have : seen M' (.ref i) = seen M (.ref i) := by simp [seen, e, hM]
      rw [this]
    · exact hs.elim
  · exact hs.elim
theorem enters83 : Enters Tryz.prog 83 := ⟨Tryz.f83, fbody Tryz.f83, by kernel_rfl, rfl, rfl⟩
theorem compRow_len (zs : List Int) : (compRow zs).length = zs.length := by
  have := Lib.compact_length_le zs
  simp only [compRow, List.length_append, List.length_replicate]
  omega
theorem own_put {B : Nat} {O : Nat → Prop} {σ : Ren} {M : Mem} {w : World} (hS : Sim B O σ M w) {i g cap n : Nat} {t : TypeId} {len : NX} {get : Nat → List CV} {cur : Array Value} {L : List Int} (hi : σ i = some (.slice (some ⟨g, 0, none⟩) len.val cap)) (hM : M i = some (.row .own t 1 len get)) (hg : w.heap[g]? = some (.cells cur t (0, 0)))
    (h1 : len.val ≤ cap) (h2 : cap ≤ maxLen) (h3 : cur.size = cap * 1) (hL : L.length = len.val) :
    Sim B O σ (updM M i (intRowT t fun _ => L)) (putRow (Value.int .i64) (Sort.ahead w n) g 0 L.toArray) ∧ Keep B O w (putRow (Value.int .i64) (Sort.ahead w n) g 0 L.toArray) := by
  have hpg : (putRow (Value.int .i64) (Sort.ahead w n) g 0 L.toArray).heap[g]? = some (.cells (putCells (Value.int .i64) 0 L.toArray cur) t (0, 0)) := by
    simp [putRow, mapBlock, Sort.ahead, Array.getElem?_modify, hg, onCells]
  refine ⟨hS.write hi hM rfl rfl (fun q hq => ?_) (by simp [Sort.ahead]) ⟨by decide, .inr ⟨g, cap, _, ?_, hpg, ?_, h2, by simp [putCells, h3], fun e he => ⟨rfl, fun j c hj => ?_⟩⟩⟩, ⟨rfl, rfl, rfl, by simp [Sort.ahead], fun q hq hO => ?_⟩⟩
  · have : g ≠ q := fun e => hq e.symm
    simp [putRow, mapBlock, Sort.ahead, Array.getElem?_modify, this]
  · show Value.slice _ len.val cap = Value.slice _ L.length cap
    rw [hL]
  · show L.length ≤ cap
    rw [hL]
    exact h1
  · have he : e < L.length := he
    have hlc : L.length ≤ cur.size := by omega
    match j, hj with
    | 0, hj =>
      cases hj
      refine ⟨.int .i64 (L.getD e 0), ?_, ⟨rfl, rfl⟩⟩
      have := take_putCellsI cur L hlc
      have h5 : ((putCells (Value.int .i64) 0 L.toArray cur).toList.take L.length)[e]? = (L.map (Value.int .i64))[e]? := by rw [this]
      rw [List.getElem?_take_of_lt he, Array.getElem?_toList] at h5
      show (putCells (Value.int .i64) 0 L.toArray cur)[e * 1 + 0]? = _
      rw [show e * 1 + 0 = e by omega, h5]
      simp [he, List.getD_eq_getElem?_getD]
  · have hb := hS.own i _ _ g hi hM rfl rfl
    have hne : g ≠ q := fun e => by
      subst e
      rcases hb with hb | hb
      · omega
      · exact hO hb
    simp [putRow, mapBlock, Sort.ahead, Array.getElem?_modify, hne]
theorem own_nil {B : Nat} {O : Nat → Prop} {σ : Ren} {M : Mem} {w : World} (hS : Sim B O σ M w) {i : Nat} {t : TypeId} {L : List Int} (hi : σ i = some (.slice none 0 0)) (hL : L.length = 0) : Sim B O σ (updM M i (intRowT t fun _ => L)) w := by
  refine ⟨fun j hv hj => ?_, fun j q hj hq oj oq b hne sj sq mj mq ho hocc bj bq => ?_, fun j hj oj b sj mj ho bj => ?_, hS.size⟩
  · by_cases e : j = i
    · subst e
      rw [hi] at hj
      cases hj
      exact ⟨_, updM_same _ _ _, by decide, .inl ⟨rfl, hL⟩⟩
    · obtain ⟨ob, h1, h2⟩ := hS.ob j hv hj
      exact ⟨ob, by rw [updM_other _ _ e]; exact h1, h2⟩
  · by_cases e : j = i
    · subst e
      rw [hi] at sj
      cases sj
      simp [blkOf, addrOf] at bj
    · by_cases e2 : q = i
      · subst e2
        rw [hi] at sq
        cases sq
        simp [blkOf, addrOf] at bq
      · exact hS.sep j q hj hq oj oq b hne sj sq ((updM_other _ _ e).symm.trans mj) ((updM_other _ _ e2).symm.trans mq) ho hocc bj bq
  · by_cases e : j = i
    · subst e
      rw [hi] at sj
      cases sj
      simp [blkOf, addrOf] at bj
    · exact hS.own j hj oj b sj ((updM_other _ _ e).symm.trans mj) ho bj
theorem okCompact : SpecOk F0 Tryz.prog 83 spCompact := by
  refine ⟨congrCompact, enters83, fun n B O σ M w args vals base hS ha hs hnew hfree => ?_⟩
  unfold spCompact at hs hnew hfree ⊢
  split at hs
  · rename_i i
    split at hs
    · rename_i t k len get hM
      obtain ⟨hk, hok⟩ := hs
      obtain ⟨hok, hsz⟩ := hok.ok
      obtain rfl := Nat.eq_of_beq_eq_true (isT_iff.1 hk)
      simp only [hM]
      match vals, ha with
      | [v], ha =>
        have hi : σ i = some v := ha.1.2
        obtain ⟨hlen, hc⟩ := own_ints hS hi hM rfl hok
        refine callsIn_wide.2 ?_
        rcases hc with ⟨rfl, hl⟩ | ⟨g, cap, cur, rfl, hg, h1, h2, h3, hH⟩
        · refine (Tryz.slices_Compact_int_empty none 0 w).mono fun e w' h => ?_
          obtain ⟨rfl, rfl⟩ := h
          have hnil : ints M (.ref i) = [] := List.eq_nil_of_length_eq_zero (by omega)
          refine ⟨σ, Ren.le.refl σ, fun j u hu => .inl hu, ⟨rfl, none, 0, 0, hi, ?_, ?_⟩, own_nil hS hi (by rw [compRow_len]; omega), Keep.refl _ _ _⟩
          · show Value.slice none 0 0 = Value.slice none (compI (ints M (.ref i))).length 0
            rw [hnil]
            rfl
          · show (compI (ints M (.ref i))).length ≤ 0
            rw [hnil]
            exact Nat.le_refl _
        · have hlt : g < w.heap.size := (Array.getElem?_eq_some_iff.1 hg).1
          have := Tryz.slices_Compact_int g 0 cap (ints M (.ref i)) w hH (by omega) (by omega)
          rw [hlen] at this
          refine this.mono fun e w' h => ?_
          obtain ⟨rfl, q, rfl⟩ := h
          have hL : (compRow (ints M (.ref i))).length = len.val := by rw [compRow_len, hlen]
          obtain ⟨s1, s2⟩ := own_put (n := q) hS hi hM hg h1 h2 h3 hL
          have e0 : Lib.compact (ints M (.ref i)) ++ List.replicate (len.val - (Lib.compact (ints M (.ref i))).length) 0 = compRow (ints M (.ref i)) := by unfold compRow; rw [hlen]
          rw [e0]
          exact ⟨σ, Ren.le.refl σ, fun j u hu => .inl hu, ⟨rfl, _, _, _, hi, rfl, by have := Lib.compact_length_le (ints M (.ref i)); show (compI _).length ≤ _; unfold compI; omega⟩, s1, s2⟩
    · exact hs.elim
  · exact hs.elim
end Go.Proofs.YthgllnnlngihoaaGreat.Sx
end
section
set_option linter.unusedVariables false
set_option linter.unusedSimpArgs false
set_option maxRecDepth 100000
namespace Go.Proofs.YthgllnnlngihoaaGreat.Sx
open Go.RowKit

def idsL (ss : List SightD) (ns : List NoteD) : List Int := ss.map (·.id) ++ ns.map (·.id)
theorem idsL_len (ss : List SightD) (ns : List NoteD) : (idsL ss ns).length = ss.length + ns.length := by simp [idsL]
theorem idsL_s {ss : List SightD} {ns : List NoteD} {e : Nat} (h : e < ss.length) : (idsL ss ns).getD e 0 = (ss.getD e sightD).id := by
  simp [idsL, List.getD_eq_getElem?_getD, List.getElem?_append_left, h]
theorem idsL_n {ss : List SightD} {ns : List NoteD} {e : Nat} (h : e < ns.length) : (idsL ss ns).getD (ss.length + e) 0 = (ns.getD e noteD).id := by
  simp [idsL, List.getD_eq_getElem?_getD, List.getElem?_append_right, h]
def sightBadS (s : SightD) : Bool := sightBad s.id s.year s.x0 s.x1 s.y0 s.y1 s.ls s.lo s.hi
def lateAt (ss : List SightD) (i : Nat) : Bool := decide (0 < i) && leB (yearAt ss i) (yearAt ss (i - 1))
def sightsBad (ss : List SightD) (i : Nat) : Bool := (List.range i).any fun j => sightBadS (ss.getD j sightD) || lateAt ss j
def noteBad (n : NoteD) : Bool := !(inB n.id 1 1099511627776) || !(inB n.kind 0 2) || ltB n.frm 0 || ltB n.til n.frm || ltB 4000 n.til
def notesBad (ns : List NoteD) (i : Nat) : Bool := (List.range i).any fun j => noteBad (ns.getD j noteD)
def dupB (ss : List SightD) (ns : List NoteD) : Bool := decide ((compI (sortI (idsL ss ns))).length < (idsL ss ns).length)
def manyB (ss : List SightD) (ns : List NoteD) : Bool := !(inB ss.length 1 9) || ltB 20 ns.length
def checkE (st pl sk : Int) (ss : List SightD) (ns : List NoteD) : Int :=
  bif !usualB st pl sk then 1 else bif manyB ss ns then 2 else bif sightsBad ss ss.length || notesBad ns ns.length then 1 else bif dupB ss ns then 6 else 0
theorem sightE_bad {s : SightD} (h : eqB (sightE s.id s.year s.x0 s.x1 s.y0 s.y1 s.ls s.lo s.hi) 0 = false) : sightBadS s = true ∧ sightE s.id s.year s.x0 s.x1 s.y0 s.y1 s.ls s.lo s.hi = 1 := by
  unfold sightBadS
  unfold sightE at h ⊢
  cases hb : sightBad s.id s.year s.x0 s.x1 s.y0 s.y1 s.ls s.lo s.hi with
  | true => exact ⟨rfl, rfl⟩
  | false => rw [hb] at h; cases h
theorem sightE_good {s : SightD} (h : eqB (sightE s.id s.year s.x0 s.x1 s.y0 s.y1 s.ls s.lo s.hi) 0 = true) : sightBadS s = false := by
  unfold sightBadS
  unfold sightE at h
  cases hb : sightBad s.id s.year s.x0 s.x1 s.y0 s.y1 s.ls s.lo s.hi with
  | true => rw [hb] at h; cases h
  | false => rfl
theorem any_at {f : Nat → Bool} {n i : Nat} (h : i < n) (hb : f i = true) : (List.range n).any f = true := List.any_eq_true.2 ⟨i, List.mem_range.2 h, hb⟩
theorem any_succ {f : Nat → Bool} {i : Nat} (h : (List.range i).any f = false) (hb : f i = false) : (List.range (i + 1)).any f = false := by
  rw [List.range_succ, List.any_append, h]
  simp [hb]
def iRow (n : Unit → Nat) (f : Nat → Int) : Ob := .row .own 3 1 (.sy n 0) fun e => encInt fun _ => f e
def checkG : List (FuncId × Spec) := [(80, spUsual), (81, spWithin), (42, spSight), (82, spSort), (84, spClone), (83, spCompact)]
theorem check_vc {st pl sk : Int} {ss : List SightD} {ns : List NoteD} (hsz : ss.length ≤ 140737488355328) (hnz : ns.length ≤ 140737488355328) (B : Nat) :
    vc (en checkG) ⟨fun _ => none, B, fun _ => False, Tryz.f23.ntmps, none⟩ (fbody Tryz.f23) (start [.agg [.i .i64 (.sy fun _ => st), .i .i64 (.sy fun _ => pl), .i .i64 (.sy fun _ => sk), .ref 0, .ref 1]] [sightRow .ro ss, noteRow .ro ns]) fun x s => isRet x ∧ (resultI tab Tryz.f23.results.toList s.S.get (lget s.M)).1 ∧ IvLe (fun _ => none) (resultI tab Tryz.f23.results.toList s.S.get (lget s.M)).2 (cint .i64 (.sy fun _ => checkE st pl sk ss ns)) := by
  cbv
  simp only [implies_true, and_true, true_and, IX.v_lit, IX.v_nat, IX.v_sy, BX.v_lit, BX.v_sy, NX.v_lit, NX.v_sy, addN, in_true, eq_self, Nat.succ_eq_add_one, intD_eq, encInt_le, encText_le, encSpan_le, encPair_le, encBox_le, encNote_le, encSight_le, cell_i_le, Nat.add_zero, Int.toNat_natCast, Nat.lt_irrefl, if_false, and_self, ncast, imp_self, in_self, in_self2, in_and, Int.cast_ofNat_Int, in_and2, noT, noF]
  refine ⟨fun h => ?_, fun h => ?_⟩
  · cbv
    simp only [implies_true, and_true, true_and, IX.v_lit, IX.v_nat, IX.v_sy, BX.v_lit, BX.v_sy, NX.v_lit, NX.v_sy, addN, in_true, eq_self, Nat.succ_eq_add_one, intD_eq, encInt_le, encText_le, encSpan_le, encPair_le, encBox_le, encNote_le, encSight_le, cell_i_le, Nat.add_zero, Int.toNat_natCast, Nat.lt_irrefl, if_false, and_self, ncast, imp_self, in_self, in_self2, in_and, Int.cast_ofNat_Int, in_and2, ltB_t, ltB_f, leB_t, leB_f, eqB_t, eqB_f, ltNB_t, ltNB_f, leNB_t, leNB_f, eqNB_t, eqNB_f, noT, noF, Bool.and_eq_true, Bool.or_eq_true, Bool.and_eq_false_iff, Bool.or_eq_false_iff]
    exact ⟨by unfold checkE; rw [h]; rfl⟩
  · cbv
    simp only [implies_true, and_true, true_and, IX.v_lit, IX.v_nat, IX.v_sy, BX.v_lit, BX.v_sy, NX.v_lit, NX.v_sy, addN, in_true, eq_self, Nat.succ_eq_add_one, intD_eq, encInt_le, encText_le, encSpan_le, encPair_le, encBox_le, encNote_le, encSight_le, cell_i_le, Nat.add_zero, Int.toNat_natCast, Nat.lt_irrefl, if_false, and_self, ncast, imp_self, in_self, in_self2, in_and, Int.cast_ofNat_Int, in_and2, noT, noF]
    refine ⟨fun h2 => ?_, fun h2 => ?_⟩
    · have h2 : manyB ss ns = true := h2
      cbv
      simp only [implies_true, and_true, true_and, IX.v_lit, IX.v_nat, IX.v_sy, BX.v_lit, BX.v_sy, NX.v_lit, NX.v_sy, addN, in_true, eq_self, Nat.succ_eq_add_one, intD_eq, encInt_le, encText_le, encSpan_le, encPair_le, encBox_le, encNote_le, encSight_le, cell_i_le, Nat.add_zero, Int.toNat_natCast, Nat.lt_irrefl, if_false, and_self, ncast, imp_self, in_self, in_self2, in_and, Int.cast_ofNat_Int, in_and2, ltB_t, ltB_f, leB_t, leB_f, eqB_t, eqB_f, ltNB_t, ltNB_f, leNB_t, leNB_f, eqNB_t, eqNB_f, noT, noF, Bool.and_eq_true, Bool.or_eq_true, Bool.and_eq_false_iff, Bool.or_eq_false_iff]
      exact ⟨by unfold checkE; rw [h, h2]; rfl⟩
    · have h2 : manyB ss ns = false := h2
      have hs1 : 1 ≤ ss.length ∧ ss.length ≤ 9 ∧ ns.length ≤ 20 := by
        unfold manyB inB ltB at h2
        simp only [Bool.or_eq_false_iff, Bool.not_eq_false', Bool.and_eq_true, decide_eq_true_eq, decide_eq_false_iff_not] at h2
        omega
      cbv
      simp only [implies_true, and_true, true_and, IX.v_lit, IX.v_nat, IX.v_sy, BX.v_lit, BX.v_sy, NX.v_lit, NX.v_sy, addN, in_true, eq_self, Nat.succ_eq_add_one, intD_eq, encInt_le, encText_le, encSpan_le, encPair_le, encBox_le, encNote_le, encSight_le, cell_i_le, Nat.add_zero, Int.toNat_natCast, Nat.lt_irrefl, if_false, and_self, ncast, imp_self, in_self, in_self2, in_and, Int.cast_ofNat_Int, in_and2, noT, noF]
      refine ⟨{i : Nat // i ≤ ss.length ∧ sightsBad ss i = false}, fun i => ⟨[(1, .lit true, .one (.ref 2)), (3, .lit true, .one (.ref 3)), (27, .lit true, .one (.ref 0)), (28, .lit true, cint .i64 (.nat (fun _ => ss.length) 0)), (29, .lit true, .one (.i .i64 (natI i.1)))], [(0, sightRow .ro ss), (1, noteRow .ro ns), (2, .box true 27 [.i .i64 (.sy fun _ => st), .i .i64 (.sy fun _ => pl), .i .i64 (.sy fun _ => sk), .ref 0, .ref 1]), (3, iRow (fun _ => i.1) fun e => (idsL ss ns).getD e 0)], 4⟩, fun i => ss.length - i.1, ⟨0, by omega, rfl⟩, LeBy.le (pins := []) (fun i u h => by cases h) (l := [(0, .old 0), (1, .old 1), (2, .old 2), (3, .nil)]) ?_, fun i => ?_⟩
      · cbv
        simp only [implies_true, and_true, true_and, IX.v_lit, IX.v_nat, IX.v_sy, BX.v_lit, BX.v_sy, NX.v_lit, NX.v_sy, addN, in_true, eq_self, Nat.succ_eq_add_one, intD_eq, encInt_le, encText_le, encSpan_le, encPair_le, encBox_le, encNote_le, encSight_le, cell_i_le, Nat.add_zero, Int.toNat_natCast, Nat.lt_irrefl, if_false, and_self, ncast, imp_self, in_self, in_self2, in_and, Int.cast_ofNat_Int, in_and2, ltB_t, ltB_f, leB_t, leB_f, eqB_t, eqB_f, ltNB_t, ltNB_f, leNB_t, leNB_f, eqNB_t, eqNB_f, noT, noF, Bool.and_eq_true, Bool.or_eq_true, Bool.and_eq_false_iff, Bool.or_eq_false_iff]
      · obtain ⟨i, hi, hl⟩ := i
        rcases i with _ | j
        · cbv
          simp only [implies_true, and_true, true_and, IX.v_lit, IX.v_nat, IX.v_sy, BX.v_lit, BX.v_sy, NX.v_lit, NX.v_sy, addN, in_true, eq_self, Nat.succ_eq_add_one, intD_eq, encInt_le, encText_le, encSpan_le, encPair_le, encBox_le, encNote_le, encSight_le, cell_i_le, Nat.add_zero, Int.toNat_natCast, Nat.lt_irrefl, if_false, and_self, ncast, imp_self, in_self, in_self2, in_and, Int.cast_ofNat_Int, in_and2, ltB_t, ltB_f, leB_t, leB_f, eqB_t, eqB_f, ltNB_t, ltNB_f, leNB_t, leNB_f, eqNB_t, eqNB_f, noT, noF, Bool.and_eq_true, Bool.or_eq_true, Bool.and_eq_false_iff, Bool.or_eq_false_iff]
          refine ⟨fun hlt => ?_, fun hlt => by (first | omega | (simp only [ncast] at *; omega))⟩
          cbv
          simp only [implies_true, and_true, true_and, IX.v_lit, IX.v_nat, IX.v_sy, BX.v_lit, BX.v_sy, NX.v_lit, NX.v_sy, addN, in_true, eq_self, Nat.succ_eq_add_one, intD_eq, encInt_le, encText_le, encSpan_le, encPair_le, encBox_le, encNote_le, encSight_le, cell_i_le, Nat.add_zero, Int.toNat_natCast, Nat.lt_irrefl, if_false, and_self, ncast, imp_self, in_self, in_self2, in_and, Int.cast_ofNat_Int, in_and2, noT, noF]
          refine ⟨⟨by omega⟩, ⟨by omega⟩, fun hb => ?_, fun hb => ?_⟩
          · obtain ⟨b1, b2⟩ := sightE_bad (s := ss.getD 0 sightD) hb
            have hS : sightsBad ss ss.length = true := any_at (i := 0) (by omega) (by rw [b1, Bool.true_or])
            cbv
            simp only [implies_true, and_true, true_and, IX.v_lit, IX.v_nat, IX.v_sy, BX.v_lit, BX.v_sy, NX.v_lit, NX.v_sy, addN, in_true, eq_self, Nat.succ_eq_add_one, intD_eq, encInt_le, encText_le, encSpan_le, encPair_le, encBox_le, encNote_le, encSight_le, cell_i_le, Nat.add_zero, Int.toNat_natCast, Nat.lt_irrefl, if_false, and_self, ncast, imp_self, in_self, in_self2, in_and, Int.cast_ofNat_Int, in_and2, ltB_t, ltB_f, leB_t, leB_f, eqB_t, eqB_f, ltNB_t, ltNB_f, leNB_t, leNB_f, eqNB_t, eqNB_f, noT, noF, Bool.and_eq_true, Bool.or_eq_true, Bool.and_eq_false_iff, Bool.or_eq_false_iff]
            exact ⟨by unfold checkE; rw [h, h2, hS]; exact b2.symm⟩
          · have b1 := sightE_good (s := ss.getD 0 sightD) hb
            cbv
            simp only [implies_true, and_true, true_and, IX.v_lit, IX.v_nat, IX.v_sy, BX.v_lit, BX.v_sy, NX.v_lit, NX.v_sy, addN, in_true, eq_self, Nat.succ_eq_add_one, intD_eq, encInt_le, encText_le, encSpan_le, encPair_le, encBox_le, encNote_le, encSight_le, cell_i_le, Nat.add_zero, Int.toNat_natCast, Nat.lt_irrefl, if_false, and_self, ncast, imp_self, in_self, in_self2, in_and, Int.cast_ofNat_Int, in_and2, noT, noF]
            refine ⟨⟨by decide, by decide⟩, ⟨by unfold fitsK; omega⟩, ⟨1, by omega, any_succ rfl (by rw [b1]; rfl)⟩, LeBy.le (pins := []) (fun i u h => by cases h) (l := [(0, .old 0), (1, .old 1), (2, .old 2), (3, .old 6)]) ?_, by show ss.length - 1 < ss.length - 0; omega⟩
            cbv
            simp only [implies_true, and_true, true_and, IX.v_lit, IX.v_nat, IX.v_sy, BX.v_lit, BX.v_sy, NX.v_lit, NX.v_sy, addN, in_true, eq_self, Nat.succ_eq_add_one, intD_eq, encInt_le, encText_le, encSpan_le, encPair_le, encBox_le, encNote_le, encSight_le, cell_i_le, Nat.add_zero, Int.toNat_natCast, Nat.lt_irrefl, if_false, and_self, ncast, imp_self, in_self, in_self2, in_and, Int.cast_ofNat_Int, in_and2, ltB_t, ltB_f, leB_t, leB_f, eqB_t, eqB_f, ltNB_t, ltNB_f, leNB_t, leNB_f, eqNB_t, eqNB_f, noT, noF, Bool.and_eq_true, Bool.or_eq_true, Bool.and_eq_false_iff, Bool.or_eq_false_iff]
            refine ⟨⟨fun e he => ?_⟩, ⟨rfl⟩⟩
            obtain rfl : e = 0 := by omega
            exact ⟨⟨trivial, ⟨idsL_s (by omega)⟩⟩, trivial⟩
        · cbv
          simp only [implies_true, and_true, true_and, IX.v_lit, IX.v_nat, IX.v_sy, BX.v_lit, BX.v_sy, NX.v_lit, NX.v_sy, addN, in_true, eq_self, Nat.succ_eq_add_one, intD_eq, encInt_le, encText_le, encSpan_le, encPair_le, encBox_le, encNote_le, encSight_le, cell_i_le, Nat.add_zero, Int.toNat_natCast, Nat.lt_irrefl, if_false, and_self, ncast, imp_self, in_self, in_self2, in_and, Int.cast_ofNat_Int, in_and2, ltB_t, ltB_f, leB_t, leB_f, eqB_t, eqB_f, ltNB_t, ltNB_f, leNB_t, leNB_f, eqNB_t, eqNB_f, noT, noF, Bool.and_eq_true, Bool.or_eq_true, Bool.and_eq_false_iff, Bool.or_eq_false_iff]
          refine ⟨fun hlt => ?_, fun hlt => ?_⟩
          · have hlt : j + 1 < ss.length := hlt
            cbv
            simp only [implies_true, and_true, true_and, IX.v_lit, IX.v_nat, IX.v_sy, BX.v_lit, BX.v_sy, NX.v_lit, NX.v_sy, addN, in_true, eq_self, Nat.succ_eq_add_one, intD_eq, encInt_le, encText_le, encSpan_le, encPair_le, encBox_le, encNote_le, encSight_le, cell_i_le, Nat.add_zero, Int.toNat_natCast, Nat.lt_irrefl, if_false, and_self, ncast, imp_self, in_self, in_self2, in_and, Int.cast_ofNat_Int, in_and2, noT, noF]
            refine ⟨⟨by omega⟩, ⟨by omega⟩, fun hb => ?_, fun hb => ?_⟩
            · obtain ⟨b1, b2⟩ := sightE_bad (s := ss.getD (j + 1) sightD) hb
              have hS : sightsBad ss ss.length = true := any_at (i := j + 1) (by omega) (by rw [b1, Bool.true_or])
              cbv
              simp only [implies_true, and_true, true_and, IX.v_lit, IX.v_nat, IX.v_sy, BX.v_lit, BX.v_sy, NX.v_lit, NX.v_sy, addN, in_true, eq_self, Nat.succ_eq_add_one, intD_eq, encInt_le, encText_le, encSpan_le, encPair_le, encBox_le, encNote_le, encSight_le, cell_i_le, Nat.add_zero, Int.toNat_natCast, Nat.lt_irrefl, if_false, and_self, ncast, imp_self, in_self, in_self2, in_and, Int.cast_ofNat_Int, in_and2, ltB_t, ltB_f, leB_t, leB_f, eqB_t, eqB_f, ltNB_t, ltNB_f, leNB_t, leNB_f, eqNB_t, eqNB_f, noT, noF, Bool.and_eq_true, Bool.or_eq_true, Bool.and_eq_false_iff, Bool.or_eq_false_iff]
              exact ⟨by unfold checkE; rw [h, h2, hS]; exact b2.symm⟩
            · have b1 := sightE_good (s := ss.getD (j + 1) sightD) hb
              cbv
              simp only [implies_true, and_true, true_and, IX.v_lit, IX.v_nat, IX.v_sy, BX.v_lit, BX.v_sy, NX.v_lit, NX.v_sy, addN, in_true, eq_self, Nat.succ_eq_add_one, intD_eq, encInt_le, encText_le, encSpan_le, encPair_le, encBox_le, encNote_le, encSight_le, cell_i_le, Nat.add_zero, Int.toNat_natCast, Nat.lt_irrefl, if_false, and_self, ncast, imp_self, in_self, in_self2, in_and, Int.cast_ofNat_Int, in_and2, noT, noF]
              refine ⟨⟨by unfold fitsK; omega⟩, ⟨by omega⟩, ⟨by omega⟩, fun hc => ?_, fun hc => ?_⟩
              · have hS : sightsBad ss ss.length = true := any_at (i := j + 1) (by omega) (by
                  have : lateAt ss (j + 1) = true := hc
                  rw [this, Bool.or_true])
                cbv
                simp only [implies_true, and_true, true_and, IX.v_lit, IX.v_nat, IX.v_sy, BX.v_lit, BX.v_sy, NX.v_lit, NX.v_sy, addN, in_true, eq_self, Nat.succ_eq_add_one, intD_eq, encInt_le, encText_le, encSpan_le, encPair_le, encBox_le, encNote_le, encSight_le, cell_i_le, Nat.add_zero, Int.toNat_natCast, Nat.lt_irrefl, if_false, and_self, ncast, imp_self, in_self, in_self2, in_and, Int.cast_ofNat_Int, in_and2, ltB_t, ltB_f, leB_t, leB_f, eqB_t, eqB_f, ltNB_t, ltNB_f, leNB_t, leNB_f, eqNB_t, eqNB_f, noT, noF, Bool.and_eq_true, Bool.or_eq_true, Bool.and_eq_false_iff, Bool.or_eq_false_iff]
                exact ⟨by unfold checkE; rw [h, h2, hS]; rfl⟩
              · have hno : lateAt ss (j + 1) = false := hc
                cbv
                simp only [implies_true, and_true, true_and, IX.v_lit, IX.v_nat, IX.v_sy, BX.v_lit, BX.v_sy, NX.v_lit, NX.v_sy, addN, in_true, eq_self, Nat.succ_eq_add_one, intD_eq, encInt_le, encText_le, encSpan_le, encPair_le, encBox_le, encNote_le, encSight_le, cell_i_le, Nat.add_zero, Int.toNat_natCast, Nat.lt_irrefl, if_false, and_self, ncast, imp_self, in_self, in_self2, in_and, Int.cast_ofNat_Int, in_and2, noT, noF]
                refine ⟨⟨by omega, by omega⟩, ⟨nat_fits hlt (by omega)⟩, ⟨j + 1 + 1, by omega, any_succ hl (by rw [b1, hno]; rfl)⟩, LeBy.le (pins := []) (fun i u h => by cases h) (l := [(0, .old 0), (1, .old 1), (2, .old 2), (3, .old 6)]) ?_, by show ss.length - (j + 1 + 1) < ss.length - (j + 1); omega⟩
                cbv
                simp only [implies_true, and_true, true_and, IX.v_lit, IX.v_nat, IX.v_sy, BX.v_lit, BX.v_sy, NX.v_lit, NX.v_sy, addN, in_true, eq_self, Nat.succ_eq_add_one, intD_eq, encInt_le, encText_le, encSpan_le, encPair_le, encBox_le, encNote_le, encSight_le, cell_i_le, Nat.add_zero, Int.toNat_natCast, Nat.lt_irrefl, if_false, and_self, ncast, imp_self, in_self, in_self2, in_and, Int.cast_ofNat_Int, in_and2, ltB_t, ltB_f, leB_t, leB_f, eqB_t, eqB_f, ltNB_t, ltNB_f, leNB_t, leNB_f, eqNB_t, eqNB_f, noT, noF, Bool.and_eq_true, Bool.or_eq_true, Bool.and_eq_false_iff, Bool.or_eq_false_iff]
                refine ⟨fun e he => ?_⟩
                by_cases h1 : e < j + 1
                · simp only [h1, if_true, encInt_le]
                · simp only [h1, if_false]
                  obtain rfl : e = j + 1 := by omega
                  rw [Nat.sub_self]
                  exact ⟨⟨trivial, ⟨idsL_s (by omega)⟩⟩, trivial⟩
          · have hlen : j + 1 = ss.length := by omega
            have hS : sightsBad ss ss.length = false := by rw [← hlen]; exact hl
            cbv
            simp only [implies_true, and_true, true_and, IX.v_lit, IX.v_nat, IX.v_sy, BX.v_lit, BX.v_sy, NX.v_lit, NX.v_sy, addN, in_true, eq_self, Nat.succ_eq_add_one, intD_eq, encInt_le, encText_le, encSpan_le, encPair_le, encBox_le, encNote_le, encSight_le, cell_i_le, Nat.add_zero, Int.toNat_natCast, Nat.lt_irrefl, if_false, and_self, ncast, imp_self, in_self, in_self2, in_and, Int.cast_ofNat_Int, in_and2, noT, noF]
            refine ⟨{i : Nat // i ≤ ns.length ∧ notesBad ns i = false}, fun i => ⟨[(1, .lit true, .one (.ref 2)), (3, .lit true, .one (.ref 3)), (60, .lit true, .one (.ref 1)), (61, .lit true, cint .i64 (.nat (fun _ => ns.length) 0)), (62, .lit true, cint .i64 (.nat (fun _ => i.1) 0))], [(0, sightRow .ro ss), (1, noteRow .ro ns), (2, .box true 27 [.i .i64 (.sy fun _ => st), .i .i64 (.sy fun _ => pl), .i .i64 (.sy fun _ => sk), .ref 0, .ref 1]), (3, iRow (fun _ => ss.length + i.1) fun e => (idsL ss ns).getD e 0)], 4⟩, fun i => ns.length - i.1, ⟨0, by omega, rfl⟩, LeBy.le (pins := []) (fun i u h => by cases h) (l := [(0, .old 0), (1, .old 1), (2, .old 2), (3, .old 3)]) ?_, fun i => ?_⟩
            · cbv
              simp only [implies_true, and_true, true_and, IX.v_lit, IX.v_nat, IX.v_sy, BX.v_lit, BX.v_sy, NX.v_lit, NX.v_sy, addN, in_true, eq_self, Nat.succ_eq_add_one, intD_eq, encInt_le, encText_le, encSpan_le, encPair_le, encBox_le, encNote_le, encSight_le, cell_i_le, Nat.add_zero, Int.toNat_natCast, Nat.lt_irrefl, if_false, and_self, ncast, imp_self, in_self, in_self2, in_and, Int.cast_ofNat_Int, in_and2, ltB_t, ltB_f, leB_t, leB_f, eqB_t, eqB_f, ltNB_t, ltNB_f, leNB_t, leNB_f, eqNB_t, eqNB_f, noT, noF, Bool.and_eq_true, Bool.or_eq_true, Bool.and_eq_false_iff, Bool.or_eq_false_iff]
              exact ⟨hlen.symm⟩
            · obtain ⟨i, hi2, hl2⟩ := i
              cbv
              simp only [implies_true, and_true, true_and, IX.v_lit, IX.v_nat, IX.v_sy, BX.v_lit, BX.v_sy, NX.v_lit, NX.v_sy, addN, in_true, eq_self, Nat.succ_eq_add_one, intD_eq, encInt_le, encText_le, encSpan_le, encPair_le, encBox_le, encNote_le, encSight_le, cell_i_le, Nat.add_zero, Int.toNat_natCast, Nat.lt_irrefl, if_false, and_self, ncast, imp_self, in_self, in_self2, in_and, Int.cast_ofNat_Int, in_and2, ltB_t, ltB_f, leB_t, leB_f, eqB_t, eqB_f, ltNB_t, ltNB_f, leNB_t, leNB_f, eqNB_t, eqNB_f, noT, noF, Bool.and_eq_true, Bool.or_eq_true, Bool.and_eq_false_iff, Bool.or_eq_false_iff]
              refine ⟨fun hlt2 => ?_, fun hlt2 => ?_⟩
              · cbv
                simp only [implies_true, and_true, true_and, IX.v_lit, IX.v_nat, IX.v_sy, BX.v_lit, BX.v_sy, NX.v_lit, NX.v_sy, addN, in_true, eq_self, Nat.succ_eq_add_one, intD_eq, encInt_le, encText_le, encSpan_le, encPair_le, encBox_le, encNote_le, encSight_le, cell_i_le, Nat.add_zero, Int.toNat_natCast, Nat.lt_irrefl, if_false, and_self, ncast, imp_self, in_self, in_self2, in_and, Int.cast_ofNat_Int, in_and2, noT, noF]
                refine ⟨⟨by omega⟩, ⟨by omega⟩, fun hb => ?_, fun hb => ?_⟩
                · have hb : noteBad (ns.getD i noteD) = true := hb
                  have hN : notesBad ns ns.length = true := any_at (i := i) (by omega) hb
                  cbv
                  simp only [implies_true, and_true, true_and, IX.v_lit, IX.v_nat, IX.v_sy, BX.v_lit, BX.v_sy, NX.v_lit, NX.v_sy, addN, in_true, eq_self, Nat.succ_eq_add_one, intD_eq, encInt_le, encText_le, encSpan_le, encPair_le, encBox_le, encNote_le, encSight_le, cell_i_le, Nat.add_zero, Int.toNat_natCast, Nat.lt_irrefl, if_false, and_self, ncast, imp_self, in_self, in_self2, in_and, Int.cast_ofNat_Int, in_and2, ltB_t, ltB_f, leB_t, leB_f, eqB_t, eqB_f, ltNB_t, ltNB_f, leNB_t, leNB_f, eqNB_t, eqNB_f, noT, noF, Bool.and_eq_true, Bool.or_eq_true, Bool.and_eq_false_iff, Bool.or_eq_false_iff]
                  exact ⟨by unfold checkE; rw [h, h2, hS, hN]; rfl⟩
                · have hb : noteBad (ns.getD i noteD) = false := hb
                  cbv
                  simp only [implies_true, and_true, true_and, IX.v_lit, IX.v_nat, IX.v_sy, BX.v_lit, BX.v_sy, NX.v_lit, NX.v_sy, addN, in_true, eq_self, Nat.succ_eq_add_one, intD_eq, encInt_le, encText_le, encSpan_le, encPair_le, encBox_le, encNote_le, encSight_le, cell_i_le, Nat.add_zero, Int.toNat_natCast, Nat.lt_irrefl, if_false, and_self, ncast, imp_self, in_self, in_self2, in_and, Int.cast_ofNat_Int, in_and2, noT, noF]
                  refine ⟨⟨by omega, by omega⟩, ⟨nat_fits hlt2 (by omega)⟩, ⟨i + 1, by omega, any_succ hl2 hb⟩, LeBy.le (pins := []) (fun i u h => by cases h) (l := [(0, .old 0), (1, .old 1), (2, .old 2), (3, .old 6)]) ?_, by show ns.length - (i + 1) < ns.length - i; omega⟩
                  cbv
                  simp only [implies_true, and_true, true_and, IX.v_lit, IX.v_nat, IX.v_sy, BX.v_lit, BX.v_sy, NX.v_lit, NX.v_sy, addN, in_true, eq_self, Nat.succ_eq_add_one, intD_eq, encInt_le, encText_le, encSpan_le, encPair_le, encBox_le, encNote_le, encSight_le, cell_i_le, Nat.add_zero, Int.toNat_natCast, Nat.lt_irrefl, if_false, and_self, ncast, imp_self, in_self, in_self2, in_and, Int.cast_ofNat_Int, in_and2, ltB_t, ltB_f, leB_t, leB_f, eqB_t, eqB_f, ltNB_t, ltNB_f, leNB_t, leNB_f, eqNB_t, eqNB_f, noT, noF, Bool.and_eq_true, Bool.or_eq_true, Bool.and_eq_false_iff, Bool.or_eq_false_iff]
                  refine ⟨⟨rfl⟩, ⟨fun e he => ?_⟩⟩
                  by_cases h1 : e < ss.length + i
                  · simp only [h1, if_true, encInt_le]
                  · simp only [h1, if_false]
                    obtain rfl : e = ss.length + i := by omega
                    rw [Nat.sub_self]
                    exact ⟨⟨trivial, ⟨idsL_n (by omega)⟩⟩, trivial⟩
              · have hx : ss.length + i = (idsL ss ns).length := by rw [idsL_len]; omega
                have hxl : (idsL ss ns).length ≤ 29 := by omega
                have hN : notesBad ns ns.length = false := by rw [show ns.length = i by omega]; exact hl2
                have hd : ∀ b, dupB ss ns = b → checkE st pl sk ss ns = bif b then 6 else 0 := fun b hb => by unfold checkE; rw [h, h2, hS, hN, hb]; rfl
                unfold dupB at hd
                simp only [hx]
                generalize idsL ss ns = ids at *
                cbv
                simp only [implies_true, and_true, true_and, IX.v_lit, IX.v_nat, IX.v_sy, BX.v_lit, BX.v_sy, NX.v_lit, NX.v_sy, addN, in_true, eq_self, Nat.succ_eq_add_one, intD_eq, encInt_le, encText_le, encSpan_le, encPair_le, encBox_le, encNote_le, encSight_le, cell_i_le, Nat.add_zero, Int.toNat_natCast, Nat.lt_irrefl, if_false, and_self, ncast, imp_self, in_self, in_self2, in_and, Int.cast_ofNat_Int, in_and2, noT, noF]
                simp only [in_true, eq_self, and_true, true_and, ints, texts, spans, pairs, boxs, notes, sights, seen, lget, reduceIte, Nat.reduceEqDiff, reduceCtorEq, Nat.succ_ne_self, Nat.zero_ne_one, Nat.one_ne_zero, int_row0, int_row, text_row, span_row, pair_row, box_row, note_row, sight_row]
                have hso := sortI_len ids
                have hcp := Lib.compact_length_le (sortI ids)
                refine ⟨⟨(ints_at ids _ _ rfl).1, by omega⟩, ⟨(ints_at (sortI ids) _ _ rfl).1, by omega⟩, ⟨(ints_at (sortI ids) _ _ rfl).1, by omega⟩, ⟨by rw [compRow_len]; exact hcp⟩, fun hb => ?_, fun hb => ?_⟩
                · have hb : decide ((compI (sortI ids)).length < ids.length) = true := by rw [← hso]; exact hb
                  cbv
                  simp only [implies_true, and_true, true_and, IX.v_lit, IX.v_nat, IX.v_sy, BX.v_lit, BX.v_sy, NX.v_lit, NX.v_sy, addN, in_true, eq_self, Nat.succ_eq_add_one, intD_eq, encInt_le, encText_le, encSpan_le, encPair_le, encBox_le, encNote_le, encSight_le, cell_i_le, Nat.add_zero, Int.toNat_natCast, Nat.lt_irrefl, if_false, and_self, ncast, imp_self, in_self, in_self2, in_and, Int.cast_ofNat_Int, in_and2, ltB_t, ltB_f, leB_t, leB_f, eqB_t, eqB_f, ltNB_t, ltNB_f, leNB_t, leNB_f, eqNB_t, eqNB_f, noT, noF, Bool.and_eq_true, Bool.or_eq_true, Bool.and_eq_false_iff, Bool.or_eq_false_iff]
                  exact ⟨hd true hb⟩
                · have hb : decide ((compI (sortI ids)).length < ids.length) = false := by rw [← hso]; exact hb
                  cbv
                  simp only [implies_true, and_true, true_and, IX.v_lit, IX.v_nat, IX.v_sy, BX.v_lit, BX.v_sy, NX.v_lit, NX.v_sy, addN, in_true, eq_self, Nat.succ_eq_add_one, intD_eq, encInt_le, encText_le, encSpan_le, encPair_le, encBox_le, encNote_le, encSight_le, cell_i_le, Nat.add_zero, Int.toNat_natCast, Nat.lt_irrefl, if_false, and_self, ncast, imp_self, in_self, in_self2, in_and, Int.cast_ofNat_Int, in_and2, ltB_t, ltB_f, leB_t, leB_f, eqB_t, eqB_f, ltNB_t, ltNB_f, leNB_t, leNB_f, eqNB_t, eqNB_f, noT, noF, Bool.and_eq_true, Bool.or_eq_true, Bool.and_eq_false_iff, Bool.or_eq_false_iff]
                  exact ⟨hd false hb⟩
def spCheck : Spec := fun args M _ => match args with
  | [.agg [.i .i64 st, .i .i64 pl, .i .i64 sk, c, d]] => ⟨In fun _ => okLife M c d, cint .i64 (.sy fun _ => checkE st.val pl.val sk.val (sights M c) (notes M d)), [], [], (seen M c).reads ++ (seen M d).reads⟩
  | _ => bad
theorem congrCheck : spCheck.Congr := by
  intro args M M' base hs h
  unfold spCheck at *
  split at hs
  · simp only [okLife, okSights, okNotes, sights, notes] at h ⊢
    rw [seen_congr (M := M) (M' := M') (fun i hi => h i (List.mem_append_left _ hi)), seen_congr (M := M) (M' := M') (fun i hi => h i (List.mem_append_right _ hi))]
  · exact hs.elim
theorem okCheck : SpecOk F0 Tryz.prog 23 spCheck := by
  refine spec_val (e := en checkG) (en_ok ⟨okUsual, okWithin, okSight, okSort, okClone, okCompact, trivial⟩) rfl (fn := Tryz.f23) (c := fbody Tryz.f23) (by kernel_rfl) rfl rfl (by kernel_rfl) congrCheck fun args M base hs => ?_
  unfold spCheck at hs ⊢
  split at hs
  · rename_i st pl sk c d
    obtain ⟨k1, k2, k3, k4⟩ := hs.ok
    exact ⟨[.agg [.i .i64 (.sy fun _ => st.val), .i .i64 (.sy fun _ => pl.val), .i .i64 (.sy fun _ => sk.val), .ref 0, .ref 1]], [sightRow .ro (sights M c), noteRow .ro (notes M d)], Nat.le_of_ble_eq_true rfl, ⟨rfl, trivial⟩, .val rfl (.val rfl (.val rfl (.row (sight_from k1) (.row (note_from k2) .nil)))), rfl, rfl, rfl, check_vc k3 k4⟩
  · exact hs.elim
end Go.Proofs.YthgllnnlngihoaaGreat.Sx
end
section
set_option linter.unusedVariables false
set_option linter.unusedSimpArgs false
set_option maxRecDepth 100000
namespace Go.Proofs.YthgllnnlngihoaaGreat.Sx
open Go.RowKit

def givenE (st pl sk : Int) (ss : List SightD) (ns : List NoteD) (cs : List Int) : Int := bif decide (checkE st pl sk ss ns = 0) then (bif courseB ss.length cs then 0 else 50) else checkE st pl sk ss ns
def spGiven : Spec := fun args M _ => match args with
  | [.agg [.i .i64 st, .i .i64 pl, .i .i64 sk, c, d], .one e] => ⟨In fun _ => okLife M c d ∧ okInts M e ∧ (ints M e).length ≤ 140737488355328, cint .i64 (.sy fun _ => givenE st.val pl.val sk.val (sights M c) (notes M d) (ints M e)), [], [], (seen M c).reads ++ (seen M d).reads ++ (seen M e).reads⟩
  | _ => bad
theorem congrGiven : spGiven.Congr := by
  intro args M M' base hs h
  unfold spGiven at *
  split at hs
  · simp only [okLife, okSights, okNotes, okInts, sights, notes, ints] at h ⊢
    rw [seen_congr (M := M) (M' := M') (fun i hi => h i (List.mem_append_left _ (List.mem_append_left _ hi))), seen_congr (M := M) (M' := M') (fun i hi => h i (List.mem_append_left _ (List.mem_append_right _ hi))), seen_congr (M := M) (M' := M') (fun i hi => h i (List.mem_append_right _ hi))]
  · exact hs.elim
theorem okGiven : SpecOk F0 Tryz.prog 73 spGiven := by
  refine spec_val (e := en [(23, spCheck), (137, spKinds)]) (en_ok ⟨okCheck, okKinds, trivial⟩) rfl (fn := Tryz.f73) (c := fbody Tryz.f73) (by kernel_rfl) rfl rfl (by kernel_rfl) congrGiven fun args M base hs => ?_
  unfold spGiven at hs ⊢
  split at hs
  · rename_i st pl sk c d e
    refine ⟨[.agg [.i .i64 (.sy fun _ => st.val), .i .i64 (.sy fun _ => pl.val), .i .i64 (.sy fun _ => sk.val), .ref 0, .ref 1], .one (.ref 2)], [sightRow .ro (sights M c), noteRow .ro (notes M d), intRow .ro (ints M e)], Nat.le_of_ble_eq_true rfl, ⟨rfl, trivial⟩, .val rfl (.val rfl (.val rfl (.row (sight_from hs.ok.1.1) (.row (note_from hs.ok.1.2.1) (.row (int_from hs.ok.2.1) .nil))))), rfl, rfl, rfl, fun B => ?_⟩
    have hsz : (sights M c).length ≤ 140737488355328 := hs.ok.1.2.2.1
    have hnz : (notes M d).length ≤ 140737488355328 := hs.ok.1.2.2.2
    have hsz2 : (ints M e).length ≤ 140737488355328 := hs.ok.2.2
    clear hs
    show vc _ _ _ _ fun x s => _ ∧ _ ∧ IvLe _ _ (cint .i64 (.sy fun _ => givenE st.val pl.val sk.val (sights M c) (notes M d) (ints M e)))
    revert hsz hnz hsz2
    generalize sights M c = ss
    generalize notes M d = ns
    generalize ints M e = cs
    intro hsz hnz hsz2
    cbv
    simp only [implies_true, and_true, true_and, IX.v_lit, IX.v_nat, IX.v_sy, BX.v_lit, BX.v_sy, NX.v_lit, NX.v_sy, addN, in_true, eq_self, Nat.succ_eq_add_one, intD_eq, encInt_le, encText_le, encSpan_le, encPair_le, encBox_le, encNote_le, encSight_le, cell_i_le, Nat.add_zero, Int.toNat_natCast, Nat.lt_irrefl, if_false, and_self, ncast, imp_self, in_self, in_self2, in_and, Int.cast_ofNat_Int, in_and2, noT, noF]
    simp only [in_true, eq_self, and_true, true_and, ints, texts, spans, pairs, boxs, notes, sights, seen, lget, reduceIte, Nat.reduceEqDiff, reduceCtorEq, Nat.succ_ne_self, Nat.zero_ne_one, Nat.one_ne_zero, int_row0, int_row, text_row, span_row, pair_row, box_row, note_row, sight_row]
    refine ⟨⟨life_at rfl rfl hsz hnz⟩, fun h => ?_, fun h => ?_⟩
    · have h : decide (checkE st.val pl.val sk.val ss ns = 0) = false := h
      cbv
      simp only [implies_true, and_true, true_and, IX.v_lit, IX.v_nat, IX.v_sy, BX.v_lit, BX.v_sy, NX.v_lit, NX.v_sy, addN, in_true, eq_self, Nat.succ_eq_add_one, intD_eq, encInt_le, encText_le, encSpan_le, encPair_le, encBox_le, encNote_le, encSight_le, cell_i_le, Nat.add_zero, Int.toNat_natCast, Nat.lt_irrefl, if_false, and_self, ncast, imp_self, in_self, in_self2, in_and, Int.cast_ofNat_Int, in_and2, ltB_t, ltB_f, leB_t, leB_f, eqB_t, eqB_f, ltNB_t, ltNB_f, leNB_t, leNB_f, eqNB_t, eqNB_f, noT, noF, Bool.and_eq_true, Bool.or_eq_true, Bool.and_eq_false_iff, Bool.or_eq_false_iff]
      exact ⟨by unfold givenE; rw [h]; rfl⟩
    · have h : decide (checkE st.val pl.val sk.val ss ns = 0) = true := h
      cbv
      simp only [implies_true, and_true, true_and, IX.v_lit, IX.v_nat, IX.v_sy, BX.v_lit, BX.v_sy, NX.v_lit, NX.v_sy, addN, in_true, eq_self, Nat.succ_eq_add_one, intD_eq, encInt_le, encText_le, encSpan_le, encPair_le, encBox_le, encNote_le, encSight_le, cell_i_le, Nat.add_zero, Int.toNat_natCast, Nat.lt_irrefl, if_false, and_self, ncast, imp_self, in_self, in_self2, in_and, Int.cast_ofNat_Int, in_and2, noT, noF]
      simp only [in_true, eq_self, and_true, true_and, ints, texts, spans, pairs, boxs, notes, sights, seen, lget, reduceIte, Nat.reduceEqDiff, reduceCtorEq, Nat.succ_ne_self, Nat.zero_ne_one, Nat.one_ne_zero, int_row0, int_row, text_row, span_row, pair_row, box_row, note_row, sight_row]
      refine ⟨⟨life_at rfl rfl hsz hnz, (ints_at cs _ _ rfl).1, hsz2⟩, fun h2 => ?_, fun h2 => ?_⟩
      · cbv
        simp only [implies_true, and_true, true_and, IX.v_lit, IX.v_nat, IX.v_sy, BX.v_lit, BX.v_sy, NX.v_lit, NX.v_sy, addN, in_true, eq_self, Nat.succ_eq_add_one, intD_eq, encInt_le, encText_le, encSpan_le, encPair_le, encBox_le, encNote_le, encSight_le, cell_i_le, Nat.add_zero, Int.toNat_natCast, Nat.lt_irrefl, if_false, and_self, ncast, imp_self, in_self, in_self2, in_and, Int.cast_ofNat_Int, in_and2, ltB_t, ltB_f, leB_t, leB_f, eqB_t, eqB_f, ltNB_t, ltNB_f, leNB_t, leNB_f, eqNB_t, eqNB_f, noT, noF, Bool.and_eq_true, Bool.or_eq_true, Bool.and_eq_false_iff, Bool.or_eq_false_iff]
        exact ⟨by unfold givenE; rw [h, h2]; rfl⟩
      · cbv
        simp only [implies_true, and_true, true_and, IX.v_lit, IX.v_nat, IX.v_sy, BX.v_lit, BX.v_sy, NX.v_lit, NX.v_sy, addN, in_true, eq_self, Nat.succ_eq_add_one, intD_eq, encInt_le, encText_le, encSpan_le, encPair_le, encBox_le, encNote_le, encSight_le, cell_i_le, Nat.add_zero, Int.toNat_natCast, Nat.lt_irrefl, if_false, and_self, ncast, imp_self, in_self, in_self2, in_and, Int.cast_ofNat_Int, in_and2, ltB_t, ltB_f, leB_t, leB_f, eqB_t, eqB_f, ltNB_t, ltNB_f, leNB_t, leNB_f, eqNB_t, eqNB_f, noT, noF, Bool.and_eq_true, Bool.or_eq_true, Bool.and_eq_false_iff, Bool.or_eq_false_iff]
        exact ⟨by unfold givenE; rw [h, h2]; rfl⟩
  · exact hs.elim

/-- Which lives and courses are given. -/
theorem given_ok {st pl sk : Int} {ss : List SightD} {ns : List NoteD} {cs : List Int} (h : givenE st pl sk ss ns cs = 0) : ThruIn ss ss cs st pl sk ∧ ns.length ≤ 20 ∧ ss.length ≤ 9 := by
  unfold givenE at h
  cases h1 : decide (checkE st pl sk ss ns = 0) with
  | false => rw [h1] at h; exact absurd h (of_decide_eq_false h1)
  | true =>
    rw [h1] at h
    have hc := of_decide_eq_true h1
    have hco : courseB ss.length cs = true := by
      cases h2 : courseB ss.length cs with
      | true => rfl
      | false => rw [h2] at h; cases h
    unfold checkE at hc
    have hu : usualB st pl sk = true := by
      cases h2 : usualB st pl sk with
      | true => rfl
      | false => rw [h2] at hc; cases hc
    rw [hu] at hc
    have hm : manyB ss ns = false := by
      cases h2 : manyB ss ns with
      | false => rfl
      | true => rw [h2] at hc; cases hc
    rw [hm] at hc
    have hsb : sightsBad ss ss.length = false := by
      cases h2 : sightsBad ss ss.length with
      | false => rfl
      | true => rw [h2] at hc; cases hc
    have hgood : ∀ j, j < ss.length → sightBadS (ss.getD j sightD) = false ∧ lateAt ss j = false := fun j hj => by
      have := List.any_eq_false.1 hsb j (List.mem_range.2 hj)
      simpa using this
    have hS : ∀ j, j < ss.length → (0 ≤ yearAt ss j ∧ yearAt ss j ≤ 4000) ∧ properB (sightAt ss j).x0 (sightAt ss j).x1 (sightAt ss j).y0 (sightAt ss j).y1 = true ∧ 0 ≤ (sightAt ss j).lo ∧ (sightAt ss j).lo ≤ (sightAt ss j).hi ∧ (sightAt ss j).hi ≤ 100 := fun j hj => by
      have := (hgood j hj).1
      unfold sightBadS sightBad at this
      simp only [Bool.or_eq_false_iff, Bool.not_eq_false', Bool.and_eq_true, decide_eq_true_eq, decide_eq_false_iff_not] at this
      obtain ⟨⟨⟨⟨⟨⟨_, hy⟩, hp⟩, _⟩, h1⟩, h2⟩, h3⟩ := this
      exact ⟨hy, hp, by unfold sightAt; omega, by unfold sightAt; omega, by unfold sightAt; omega⟩
    have hP : ∀ j, j < ss.length → inC (sightAt ss j).x0 ∧ inC (sightAt ss j).x1 ∧ inC (sightAt ss j).y0 ∧ inC (sightAt ss j).y1 := fun j hj => by
      have := (hS j hj).2.1
      unfold properB spanB inB at this
      simp only [Bool.and_eq_true, decide_eq_true_eq] at this
      unfold inC
      omega
    unfold manyB inB ltB at hm
    simp only [Bool.or_eq_false_iff, Bool.not_eq_false', Bool.and_eq_true, decide_eq_true_eq, decide_eq_false_iff_not] at hm
    unfold usualB inB at hu
    simp only [Bool.and_eq_true, decide_eq_true_eq] at hu
    unfold courseB at hco
    simp only [Bool.and_eq_true, decide_eq_true_eq] at hco
    refine ⟨⟨rfl, ⟨by omega, by omega, by omega⟩, ⟨fun pos k hk => ?_, fun k hk => ⟨(hS k hk).2.2.1, (hS k hk).2.2.2.2⟩, fun k hk => (hS k hk).1, fun k hk => ?_⟩, fun k hk => ?_, by omega, by omega, hco.1⟩, by omega, by omega⟩
    · obtain ⟨a, b, c, d⟩ := hP k hk
      obtain ⟨_, _, e, f, g⟩ := hS k hk
      unfold spAt spanIn
      split
      · exact ⟨a, b⟩
      · exact ⟨c, d⟩
      · unfold inC
        simp only
        omega
    · have := (hgood (k + 1) hk).2
      unfold lateAt leB at this
      simp only [Bool.and_eq_false_iff, decide_eq_false_iff_not, Nat.add_sub_cancel] at this
      omega
    · have := List.all_eq_true.1 hco.2 k (List.mem_range.2 hk)
      simp only [Bool.and_eq_true, decide_eq_true_eq] at this
      unfold okKind kindAt
      omega
/-- Which lives pass the check. -/
theorem check_ok {st pl sk : Int} {ss : List SightD} {ns : List NoteD} (hc : checkE st pl sk ss ns = 0) : HabitOk st pl sk ∧ LifeOk ss ∧ 0 < ss.length ∧ ss.length ≤ 9 ∧ ns.length ≤ 20 := by
  have hpos : 0 < ss.length := by
    rcases Nat.eq_zero_or_pos ss.length with h0 | h0
    · exfalso
      have hm : manyB ss ns = true := by
        unfold manyB inB
        rw [h0]
        rfl
      unfold checkE at hc
      rw [hm] at hc
      cases hu : usualB st pl sk <;> rw [hu] at hc <;> cases hc
    · exact h0
  have hz : ∀ (n j : Nat), (List.replicate n (0 : Int)).getD j 0 = 0 := fun n j => by
    rw [List.getD_eq_getElem?_getD, List.getElem?_replicate]
    split <;> rfl
  have hg : givenE st pl sk ss ns (List.replicate (ss.length - 1) 0) = 0 := by
    have hco : courseB ss.length (List.replicate (ss.length - 1) 0) = true := by
      unfold courseB kindsTo
      rw [Bool.and_eq_true, decide_eq_true_eq, List.length_replicate]
      refine ⟨by omega, List.all_eq_true.2 fun j _ => ?_⟩
      rw [hz]
      rfl
    unfold givenE
    rw [hc, hco]
    rfl
  obtain ⟨H, h2, h3⟩ := given_ok hg
  exact ⟨H.hab, H.life, H.pos, h3, h2⟩
end Go.Proofs.YthgllnnlngihoaaGreat.Sx
end
section
set_option linter.unusedVariables false
set_option linter.unusedSimpArgs false
set_option maxRecDepth 100000
namespace Go.Proofs.YthgllnnlngihoaaGreat.Sx
open Go.RowKit

section
variable (st pl sk : Int) (ss : List SightD) (ns : List NoteD) (cs : List Int)
def fitsB : Bool := bif decide (givenE st pl sk ss ns cs = 0) then tellOk st pl sk ss ns cs else false
def tgE : Int := bif decide (givenE st pl sk ss ns cs = 0) then (bif tellOk st pl sk ss ns cs then 0 else 9) else givenE st pl sk ss ns cs
def tgB : List BoxD := bif decide (givenE st pl sk ss ns cs = 0) then tellB st pl sk ss ns cs else []
def tgH : List SpanD := bif decide (givenE st pl sk ss ns cs = 0) then tellH st pl sk ss ns cs else []
def tgL : List ByteArray := bif decide (givenE st pl sk ss ns cs = 0) then tellL st pl sk ss ns cs else []
end
theorem tell_side {M : Mem} {c d e : CV} {ss : List SightD} {ns : List NoteD} {cs : List Int} {st pl sk : Int} {r1 r2 r4 : List Nat} (h1 : seen M c = ⟨True, .sy (fun _ => ss.length) 0, 9, fun e => encSight fun _ => ss.getD e sightD, r1⟩) (h2 : seen M d = ⟨True, .sy (fun _ => ns.length) 0, 4, fun e => encNote fun _ => ns.getD e noteD, r2⟩) (h4 : seen M e = ⟨True, .sy (fun _ => cs.length) 0, 1, fun e => encInt fun _ => cs.getD e intD, r4⟩)
    (hn : ns.length ≤ 140737488355328) (H : ThruIn ss ss cs st pl sk) : okSights M c ∧ okNotes M d ∧ okInts M e ∧ (notes M d).length ≤ 140737488355328 ∧ ThruIn (sights M c) (sights M c) (ints M e) st pl sk := by
  obtain ⟨a1, a2⟩ := sights_at ss M c h1
  obtain ⟨b1, b2⟩ := notes_at ns M d h2
  obtain ⟨d1, d2⟩ := ints_at cs M e h4
  rw [a2, b2, d2]
  exact ⟨a1, b1, d1, hn, H⟩
theorem given_side {M : Mem} {c d e : CV} {ss : List SightD} {ns : List NoteD} {cs : List Int} {r1 r2 r4 : List Nat} (h1 : seen M c = ⟨True, .sy (fun _ => ss.length) 0, 9, fun e => encSight fun _ => ss.getD e sightD, r1⟩) (h2 : seen M d = ⟨True, .sy (fun _ => ns.length) 0, 4, fun e => encNote fun _ => ns.getD e noteD, r2⟩) (h4 : seen M e = ⟨True, .sy (fun _ => cs.length) 0, 1, fun e => encInt fun _ => cs.getD e intD, r4⟩)
    (hs : ss.length ≤ 140737488355328) (hn : ns.length ≤ 140737488355328) (hc : cs.length ≤ 140737488355328) : okLife M c d ∧ okInts M e ∧ (ints M e).length ≤ 140737488355328 := by
  obtain ⟨d1, d2⟩ := ints_at cs M e h4
  exact ⟨life_at h1 h2 hs hn, d1, by rw [d2]; exact hc⟩
def spFits : Spec := fun args M base => match args with
  | [.agg [.i .i64 st, .i .i64 pl, .i .i64 sk, c, d], .one e] => ⟨In fun _ => okLife M c d ∧ okInts M e ∧ (ints M e).length ≤ 140737488355328, .tup [.one (.b (.sy fun _ => fitsB st.val pl.val sk.val (sights M c) (notes M d) (ints M e))), .one (.i .i64 (.sy fun _ => givenE st.val pl.val sk.val (sights M c) (notes M d) (ints M e)))], [], [], (seen M c).reads ++ (seen M d).reads ++ (seen M e).reads⟩
  | _ => bad
theorem congr_spFits : spFits.Congr := by
  intro args M M' base hs h
  unfold spFits at *
  split at hs
  · simp only [okLife, okSights, okNotes, okInts, sights, notes, ints] at h ⊢
    rw [seen_congr (M := M) (M' := M') (fun i hi => h i (List.mem_append_left _ (List.mem_append_left _ hi))), seen_congr (M := M) (M' := M') (fun i hi => h i (List.mem_append_left _ (List.mem_append_right _ hi))), seen_congr (M := M) (M' := M') (fun i hi => h i (List.mem_append_right _ hi))]
  · exact hs.elim
theorem okFits : SpecOk F0 Tryz.prog 17 spFits := by
  refine spec_val (e := en [(73, spGiven), (74, spTell)]) (en_ok ⟨okGiven, okTell, trivial⟩) rfl (fn := Tryz.f17) (c := fbody Tryz.f17) (by kernel_rfl) rfl rfl (by kernel_rfl) congr_spFits fun args M base hs => ?_
  unfold spFits at hs ⊢
  split at hs
  · rename_i st pl sk c d e
    refine ⟨[.agg [.i .i64 (.sy fun _ => st.val), .i .i64 (.sy fun _ => pl.val), .i .i64 (.sy fun _ => sk.val), .ref 0, .ref 1], .one (.ref 2)], [sightRow .ro (sights M c), noteRow .ro (notes M d), intRow .ro (ints M e)], Nat.le_of_ble_eq_true rfl, ⟨rfl, trivial⟩, .val rfl (.val rfl (.val rfl (.row (sight_from hs.ok.1.1) (.row (note_from hs.ok.1.2.1) (.row (int_from hs.ok.2.1) .nil))))), rfl, rfl, rfl, fun B => ?_⟩
    have hsz : (sights M c).length ≤ 140737488355328 := hs.ok.1.2.2.1
    have hnz : (notes M d).length ≤ 140737488355328 := hs.ok.1.2.2.2
    have hsz2 : (ints M e).length ≤ 140737488355328 := hs.ok.2.2
    clear hs
    show vc _ _ _ _ fun x s => _ ∧ _ ∧ IvLe _ _ (.tup [.one (.b (.sy fun _ => fitsB st.val pl.val sk.val (sights M c) (notes M d) (ints M e))), .one (.i .i64 (.sy fun _ => givenE st.val pl.val sk.val (sights M c) (notes M d) (ints M e)))])
    revert hsz hnz hsz2
    generalize sights M c = ss
    generalize notes M d = ns
    generalize ints M e = cs
    intro hsz hnz hsz2
    generalize st.val = st
    generalize pl.val = pl
    generalize sk.val = sk
    cbv
    simp only [implies_true, and_true, true_and, IX.v_lit, IX.v_nat, IX.v_sy, BX.v_lit, BX.v_sy, NX.v_lit, NX.v_sy, addN, in_true, eq_self, Nat.succ_eq_add_one, intD_eq, encInt_le, encText_le, encSpan_le, encPair_le, encBox_le, encNote_le, encSight_le, cell_i_le, Nat.add_zero, Int.toNat_natCast, Nat.lt_irrefl, if_false, and_self, ncast, imp_self, in_self, in_self2, in_and, Int.cast_ofNat_Int, in_and2, noT, noF]
    refine ⟨⟨given_side rfl rfl rfl hsz hnz hsz2⟩, ?_⟩
    simp only [in_true, eq_self, and_true, true_and, ints, texts, spans, pairs, boxs, notes, sights, seen, lget, reduceIte, Nat.reduceEqDiff, reduceCtorEq, Nat.succ_ne_self, Nat.zero_ne_one, Nat.one_ne_zero, int_row0, int_row, text_row, span_row, pair_row, box_row, note_row, sight_row]
    refine ⟨fun h => ?_, fun h => ?_⟩
    · have h : decide (givenE st pl sk ss ns cs = 0) = false := h
      cbv
      simp only [implies_true, and_true, true_and, IX.v_lit, IX.v_nat, IX.v_sy, BX.v_lit, BX.v_sy, NX.v_lit, NX.v_sy, addN, in_true, eq_self, Nat.succ_eq_add_one, intD_eq, encInt_le, encText_le, encSpan_le, encPair_le, encBox_le, encNote_le, encSight_le, cell_i_le, Nat.add_zero, Int.toNat_natCast, Nat.lt_irrefl, if_false, and_self, ncast, imp_self, in_self, in_self2, in_and, Int.cast_ofNat_Int, in_and2, ltB_t, ltB_f, leB_t, leB_f, eqB_t, eqB_f, ltNB_t, ltNB_f, leNB_t, leNB_f, eqNB_t, eqNB_f, noT, noF, Bool.and_eq_true, Bool.or_eq_true, Bool.and_eq_false_iff, Bool.or_eq_false_iff]
      exact ⟨by unfold fitsB; rw [h]; rfl⟩
    · have h : decide (givenE st pl sk ss ns cs = 0) = true := h
      have H := (given_ok (of_decide_eq_true h)).1
      cbv
      simp only [implies_true, and_true, true_and, IX.v_lit, IX.v_nat, IX.v_sy, BX.v_lit, BX.v_sy, NX.v_lit, NX.v_sy, addN, in_true, eq_self, Nat.succ_eq_add_one, intD_eq, encInt_le, encText_le, encSpan_le, encPair_le, encBox_le, encNote_le, encSight_le, cell_i_le, Nat.add_zero, Int.toNat_natCast, Nat.lt_irrefl, if_false, and_self, ncast, imp_self, in_self, in_self2, in_and, Int.cast_ofNat_Int, in_and2, noT, noF]
      refine ⟨⟨tell_side rfl rfl rfl hnz H⟩, ?_⟩
      simp only [in_true, eq_self, and_true, true_and, ints, texts, spans, pairs, boxs, notes, sights, seen, lget, reduceIte, Nat.reduceEqDiff, reduceCtorEq, Nat.succ_ne_self, Nat.zero_ne_one, Nat.one_ne_zero, int_row0, int_row, text_row, span_row, pair_row, box_row, note_row, sight_row]
      exact ⟨⟨by unfold fitsB; rw [h]; rfl⟩, ⟨of_decide_eq_true h⟩⟩
  · exact hs.elim
def tgNews (st pl sk : Int) (ss : List SightD) (ns : List NoteD) (cs : List Int) : List Ob := [boxRowT fun _ => tgB st pl sk ss ns cs, spanRowT fun _ => tgH st pl sk ss ns cs, textRowT fun _ => tgL st pl sk ss ns cs]
theorem tgNews_own (st pl sk : Int) (ss : List SightD) (ns : List NoteD) (cs : List Int) : ∀ ob ∈ tgNews st pl sk ss ns cs, ob.own = true ∨ ¬ ob.occ := by
  intro ob h
  rcases List.mem_cons.1 h with e | h
  · subst e; exact .inl rfl
  · rcases List.mem_cons.1 h with e | h
    · subst e; exact .inl rfl
    · rcases List.mem_cons.1 h with e | h
      · subst e; exact .inl rfl
      · cases h
def tgR (base : Nat) (n : Unit → Int) : IV := .tup [.agg [.ref base, .ref (base + 1), .ref (base + 2)], .one (.i .i64 (.sy n))]
theorem tgR_le (base : Nat) (n : Unit → Int) : IvLe (tauN base 3) (tgR 0 n) (tgR base n) := ⟨⟨tauN_at (t := 0) (by omega), tauN_at (t := 1) (by omega), tauN_at (t := 2) (by omega), trivial⟩, ⟨trivial, ⟨rfl⟩⟩, trivial⟩
def spTelling : Spec := fun args M base => match args with
  | [.agg [.i .i64 st, .i .i64 pl, .i .i64 sk, c, d], .one e] => ⟨In fun _ => okLife M c d ∧ okInts M e ∧ (ints M e).length ≤ 140737488355328, tgR base fun _ => tgE st.val pl.val sk.val (sights M c) (notes M d) (ints M e), [boxRowT fun _ => tgB st.val pl.val sk.val (sights M c) (notes M d) (ints M e), spanRowT fun _ => tgH st.val pl.val sk.val (sights M c) (notes M d) (ints M e), textRowT fun _ => tgL st.val pl.val sk.val (sights M c) (notes M d) (ints M e)], [], (seen M c).reads ++ (seen M d).reads ++ (seen M e).reads⟩
  | _ => bad
theorem congr_spTelling : spTelling.Congr := by
  intro args M M' base hs h
  unfold spTelling at *
  split at hs
  · simp only [okLife, okSights, okNotes, okInts, sights, notes, ints] at h ⊢
    rw [seen_congr (M := M) (M' := M') (fun i hi => h i (List.mem_append_left _ (List.mem_append_left _ hi))), seen_congr (M := M) (M' := M') (fun i hi => h i (List.mem_append_left _ (List.mem_append_right _ hi))), seen_congr (M := M) (M' := M') (fun i hi => h i (List.mem_append_right _ hi))]
  · exact hs.elim
theorem okTelling : SpecOk F0 Tryz.prog 77 spTelling := by
  refine spec_gen (e := en [(73, spGiven), (74, spTell)]) (en_ok ⟨okGiven, okTell, trivial⟩) rfl (fn := Tryz.f77) (c := fbody Tryz.f77) (by kernel_rfl) rfl rfl (by kernel_rfl) congr_spTelling fun args M base hs => ?_
  unfold spTelling at hs ⊢
  split at hs
  · rename_i st pl sk c d e
    refine ⟨[.agg [.i .i64 (.sy fun _ => st.val), .i .i64 (.sy fun _ => pl.val), .i .i64 (.sy fun _ => sk.val), .ref 0, .ref 1], .one (.ref 2)], [sightRow .ro (sights M c), noteRow .ro (notes M d), intRow .ro (ints M e)], fun base => tgR base fun _ => tgE st.val pl.val sk.val (sights M c) (notes M d) (ints M e), fun _ => tgNews st.val pl.val sk.val (sights M c) (notes M d) (ints M e), Nat.le_of_ble_eq_true rfl, ⟨rfl, trivial⟩, .val rfl (.val rfl (.val rfl (.row (sight_from hs.ok.1.1) (.row (note_from hs.ok.1.2.1) (.row (int_from hs.ok.2.1) .nil))))), rfl, rfl, rfl, tgR_le _ _, ⟨boxT_le _ _, spanT_le _ _, textT_le _ _, trivial⟩, tgNews_own _ _ _ _ _ _, fun B => ?_⟩
    have hsz : (sights M c).length ≤ 140737488355328 := hs.ok.1.2.2.1
    have hnz : (notes M d).length ≤ 140737488355328 := hs.ok.1.2.2.2
    have hsz2 : (ints M e).length ≤ 140737488355328 := hs.ok.2.2
    clear hs
    revert hsz hnz hsz2
    generalize sights M c = ss
    generalize notes M d = ns
    generalize ints M e = cs
    intro hsz hnz hsz2
    generalize st.val = st
    generalize pl.val = pl
    generalize sk.val = sk
    cbv
    simp only [implies_true, and_true, true_and, IX.v_lit, IX.v_nat, IX.v_sy, BX.v_lit, BX.v_sy, NX.v_lit, NX.v_sy, addN, in_true, eq_self, Nat.succ_eq_add_one, intD_eq, encInt_le, encText_le, encSpan_le, encPair_le, encBox_le, encNote_le, encSight_le, cell_i_le, Nat.add_zero, Int.toNat_natCast, Nat.lt_irrefl, if_false, and_self, ncast, imp_self, in_self, in_self2, in_and, Int.cast_ofNat_Int, in_and2, noT, noF]
    refine ⟨⟨given_side rfl rfl rfl hsz hnz hsz2⟩, ?_⟩
    simp only [in_true, eq_self, and_true, true_and, ints, texts, spans, pairs, boxs, notes, sights, seen, lget, reduceIte, Nat.reduceEqDiff, reduceCtorEq, Nat.succ_ne_self, Nat.zero_ne_one, Nat.one_ne_zero, int_row0, int_row, text_row, span_row, pair_row, box_row, note_row, sight_row]
    refine ⟨fun h => ?_, fun h => ?_⟩
    · have h : decide (givenE st pl sk ss ns cs = 0) = false := h
      cbv
      refine ⟨[.nil, .nil, .nil], ?_⟩
      cbv
      simp only [implies_true, and_true, true_and, IX.v_lit, IX.v_nat, IX.v_sy, BX.v_lit, BX.v_sy, NX.v_lit, NX.v_sy, addN, in_true, eq_self, Nat.succ_eq_add_one, intD_eq, encInt_le, encText_le, encSpan_le, encPair_le, encBox_le, encNote_le, encSight_le, cell_i_le, Nat.add_zero, Int.toNat_natCast, Nat.lt_irrefl, if_false, and_self, ncast, imp_self, in_self, in_self2, in_and, Int.cast_ofNat_Int, in_and2, ltB_t, ltB_f, leB_t, leB_f, eqB_t, eqB_f, ltNB_t, ltNB_f, leNB_t, leNB_f, eqNB_t, eqNB_f, noT, noF, Bool.and_eq_true, Bool.or_eq_true, Bool.and_eq_false_iff, Bool.or_eq_false_iff]
      exact ⟨⟨⟨by unfold tgB; rw [h]; rfl⟩, ⟨by unfold tgH; rw [h]; rfl⟩, ⟨by unfold tgL; rw [h]; rfl⟩⟩, ⟨by unfold tgE; rw [h]; rfl⟩⟩
    · have h : decide (givenE st pl sk ss ns cs = 0) = true := h
      have H := (given_ok (of_decide_eq_true h)).1
      cbv
      simp only [implies_true, and_true, true_and, IX.v_lit, IX.v_nat, IX.v_sy, BX.v_lit, BX.v_sy, NX.v_lit, NX.v_sy, addN, in_true, eq_self, Nat.succ_eq_add_one, intD_eq, encInt_le, encText_le, encSpan_le, encPair_le, encBox_le, encNote_le, encSight_le, cell_i_le, Nat.add_zero, Int.toNat_natCast, Nat.lt_irrefl, if_false, and_self, ncast, imp_self, in_self, in_self2, in_and, Int.cast_ofNat_Int, in_and2, noT, noF]
      refine ⟨⟨tell_side rfl rfl rfl hnz H⟩, ?_⟩
      simp only [in_true, eq_self, and_true, true_and, ints, texts, spans, pairs, boxs, notes, sights, seen, lget, reduceIte, Nat.reduceEqDiff, reduceCtorEq, Nat.succ_ne_self, Nat.zero_ne_one, Nat.one_ne_zero, int_row0, int_row, text_row, span_row, pair_row, box_row, note_row, sight_row]
      refine ⟨fun h2 => ?_, fun h2 => ?_⟩
      · cbv
        refine ⟨[.nil, .nil, .nil], ?_⟩
        cbv
        simp only [implies_true, and_true, true_and, IX.v_lit, IX.v_nat, IX.v_sy, BX.v_lit, BX.v_sy, NX.v_lit, NX.v_sy, addN, in_true, eq_self, Nat.succ_eq_add_one, intD_eq, encInt_le, encText_le, encSpan_le, encPair_le, encBox_le, encNote_le, encSight_le, cell_i_le, Nat.add_zero, Int.toNat_natCast, Nat.lt_irrefl, if_false, and_self, ncast, imp_self, in_self, in_self2, in_and, Int.cast_ofNat_Int, in_and2, ltB_t, ltB_f, leB_t, leB_f, eqB_t, eqB_f, ltNB_t, ltNB_f, leNB_t, leNB_f, eqNB_t, eqNB_f, noT, noF, Bool.and_eq_true, Bool.or_eq_true, Bool.and_eq_false_iff, Bool.or_eq_false_iff]
        exact ⟨⟨⟨by unfold tgB tellB; rw [h, h2]; rfl⟩, ⟨by unfold tgH tellH; rw [h, h2]; rfl⟩, ⟨by unfold tgL tellL; rw [h, h2]; rfl⟩⟩, ⟨by unfold tgE; rw [h, h2]; rfl⟩⟩
      · cbv
        refine ⟨[.old 5, .old 6, .old 7], ?_⟩
        have hB : tgB st pl sk ss ns cs = tellB st pl sk ss ns cs := by unfold tgB; rw [h]; rfl
        have hH : tgH st pl sk ss ns cs = tellH st pl sk ss ns cs := by unfold tgH; rw [h]; rfl
        have hL : tgL st pl sk ss ns cs = tellL st pl sk ss ns cs := by unfold tgL; rw [h]; rfl
        have hE : tgE st pl sk ss ns cs = 0 := by unfold tgE; rw [h, h2]; rfl
        cbv
        simp only [implies_true, and_true, true_and, IX.v_lit, IX.v_nat, IX.v_sy, BX.v_lit, BX.v_sy, NX.v_lit, NX.v_sy, addN, in_true, eq_self, Nat.succ_eq_add_one, intD_eq, encInt_le, encText_le, encSpan_le, encPair_le, encBox_le, encNote_le, encSight_le, cell_i_le, Nat.add_zero, Int.toNat_natCast, Nat.lt_irrefl, if_false, and_self, ncast, imp_self, in_self, in_self2, in_and, Int.cast_ofNat_Int, in_and2, ltB_t, ltB_f, leB_t, leB_f, eqB_t, eqB_f, ltNB_t, ltNB_f, leNB_t, leNB_f, eqNB_t, eqNB_f, noT, noF, Bool.and_eq_true, Bool.or_eq_true, Bool.and_eq_false_iff, Bool.or_eq_false_iff]
        simp only [hB, hH, hL]
        exact ⟨⟨⟨⟨trivial⟩, ⟨fun e he => closedL_le rfl⟩⟩, ⟨⟨trivial⟩, ⟨fun e he => closedL_le rfl⟩⟩, ⟨trivial⟩, ⟨fun e he => closedL_le rfl⟩⟩, ⟨hE⟩⟩
  · exact hs.elim
def spPlaces : Spec := fun args M base => match args with
  | [.agg [.i .i64 st, .i .i64 pl, .i .i64 sk, c, d], .one e] => ⟨In fun _ => okLife M c d ∧ okInts M e ∧ (ints M e).length ≤ 140737488355328, .tup [.one (.ref base), .one (.i .i64 (.sy fun _ => tgE st.val pl.val sk.val (sights M c) (notes M d) (ints M e)))], [boxRowT fun _ => tgB st.val pl.val sk.val (sights M c) (notes M d) (ints M e)], [], (seen M c).reads ++ (seen M d).reads ++ (seen M e).reads⟩
  | _ => bad
theorem congr_spPlaces : spPlaces.Congr := by
  intro args M M' base hs h
  unfold spPlaces at *
  split at hs
  · simp only [okLife, okSights, okNotes, okInts, sights, notes, ints] at h ⊢
    rw [seen_congr (M := M) (M' := M') (fun i hi => h i (List.mem_append_left _ (List.mem_append_left _ hi))), seen_congr (M := M) (M' := M') (fun i hi => h i (List.mem_append_left _ (List.mem_append_right _ hi))), seen_congr (M := M) (M' := M') (fun i hi => h i (List.mem_append_right _ hi))]
  · exact hs.elim
theorem okPlaces : SpecOk F0 Tryz.prog 19 spPlaces := by
  refine spec_gen (e := en [(77, spTelling)]) (en_ok ⟨okTelling, trivial⟩) rfl (fn := Tryz.f19) (c := fbody Tryz.f19) (by kernel_rfl) rfl rfl (by kernel_rfl) congr_spPlaces fun args M base hs => ?_
  unfold spPlaces at hs ⊢
  split at hs
  · rename_i st pl sk c d e
    refine ⟨[.agg [.i .i64 (.sy fun _ => st.val), .i .i64 (.sy fun _ => pl.val), .i .i64 (.sy fun _ => sk.val), .ref 0, .ref 1], .one (.ref 2)], [sightRow .ro (sights M c), noteRow .ro (notes M d), intRow .ro (ints M e)], fun base => .tup [.one (.ref base), .one (.i .i64 (.sy fun _ => tgE st.val pl.val sk.val (sights M c) (notes M d) (ints M e)))], fun _ => [boxRowT fun _ => tgB st.val pl.val sk.val (sights M c) (notes M d) (ints M e)], Nat.le_of_ble_eq_true rfl, ⟨rfl, trivial⟩, .val rfl (.val rfl (.val rfl (.row (sight_from hs.ok.1.1) (.row (note_from hs.ok.1.2.1) (.row (int_from hs.ok.2.1) .nil))))), rfl, rfl, rfl, ⟨tauN_at (t := 0) (by simp), ⟨trivial, ⟨rfl⟩⟩, trivial⟩, ⟨boxT_le _ _, trivial⟩, (by
      intro ob hob
      rcases List.mem_cons.1 hob with e | h
      · subst e; exact .inl rfl
      · cases h), fun B => ?_⟩
    have hsz : (sights M c).length ≤ 140737488355328 := hs.ok.1.2.2.1
    have hnz : (notes M d).length ≤ 140737488355328 := hs.ok.1.2.2.2
    have hsz2 : (ints M e).length ≤ 140737488355328 := hs.ok.2.2
    clear hs
    revert hsz hnz hsz2
    generalize sights M c = ss
    generalize notes M d = ns
    generalize ints M e = cs
    intro hsz hnz hsz2
    generalize st.val = st
    generalize pl.val = pl
    generalize sk.val = sk
    cbv
    simp only [implies_true, and_true, true_and, IX.v_lit, IX.v_nat, IX.v_sy, BX.v_lit, BX.v_sy, NX.v_lit, NX.v_sy, addN, in_true, eq_self, Nat.succ_eq_add_one, intD_eq, encInt_le, encText_le, encSpan_le, encPair_le, encBox_le, encNote_le, encSight_le, cell_i_le, Nat.add_zero, Int.toNat_natCast, Nat.lt_irrefl, if_false, and_self, ncast, imp_self, in_self, in_self2, in_and, Int.cast_ofNat_Int, in_and2, noT, noF]
    refine ⟨⟨given_side rfl rfl rfl hsz hnz hsz2⟩, ?_⟩
    simp only [in_true, eq_self, and_true, true_and, ints, texts, spans, pairs, boxs, notes, sights, seen, lget, reduceIte, Nat.reduceEqDiff, reduceCtorEq, Nat.succ_ne_self, Nat.zero_ne_one, Nat.one_ne_zero, int_row0, int_row, text_row, span_row, pair_row, box_row, note_row, sight_row]
    refine ⟨[.old 4], ?_⟩
    cbv
    simp only [implies_true, and_true, true_and, IX.v_lit, IX.v_nat, IX.v_sy, BX.v_lit, BX.v_sy, NX.v_lit, NX.v_sy, addN, in_true, eq_self, Nat.succ_eq_add_one, intD_eq, encInt_le, encText_le, encSpan_le, encPair_le, encBox_le, encNote_le, encSight_le, cell_i_le, Nat.add_zero, Int.toNat_natCast, Nat.lt_irrefl, if_false, and_self, ncast, imp_self, in_self, in_self2, in_and, Int.cast_ofNat_Int, in_and2, ltB_t, ltB_f, leB_t, leB_f, eqB_t, eqB_f, ltNB_t, ltNB_f, leNB_t, leNB_f, eqNB_t, eqNB_f, noT, noF, Bool.and_eq_true, Bool.or_eq_true, Bool.and_eq_false_iff, Bool.or_eq_false_iff]
  · exact hs.elim
def spHeights : Spec := fun args M base => match args with
  | [.agg [.i .i64 st, .i .i64 pl, .i .i64 sk, c, d], .one e] => ⟨In fun _ => okLife M c d ∧ okInts M e ∧ (ints M e).length ≤ 140737488355328, .tup [.one (.ref base), .one (.i .i64 (.sy fun _ => tgE st.val pl.val sk.val (sights M c) (notes M d) (ints M e)))], [spanRowT fun _ => tgH st.val pl.val sk.val (sights M c) (notes M d) (ints M e)], [], (seen M c).reads ++ (seen M d).reads ++ (seen M e).reads⟩
  | _ => bad
theorem congr_spHeights : spHeights.Congr := by
  intro args M M' base hs h
  unfold spHeights at *
  split at hs
  · simp only [okLife, okSights, okNotes, okInts, sights, notes, ints] at h ⊢
    rw [seen_congr (M := M) (M' := M') (fun i hi => h i (List.mem_append_left _ (List.mem_append_left _ hi))), seen_congr (M := M) (M' := M') (fun i hi => h i (List.mem_append_left _ (List.mem_append_right _ hi))), seen_congr (M := M) (M' := M') (fun i hi => h i (List.mem_append_right _ hi))]
  · exact hs.elim
theorem okHeights : SpecOk F0 Tryz.prog 20 spHeights := by
  refine spec_gen (e := en [(77, spTelling)]) (en_ok ⟨okTelling, trivial⟩) rfl (fn := Tryz.f20) (c := fbody Tryz.f20) (by kernel_rfl) rfl rfl (by kernel_rfl) congr_spHeights fun args M base hs => ?_
  unfold spHeights at hs ⊢
  split at hs
  · rename_i st pl sk c d e
    refine ⟨[.agg [.i .i64 (.sy fun _ => st.val), .i .i64 (.sy fun _ => pl.val), .i .i64 (.sy fun _ => sk.val), .ref 0, .ref 1], .one (.ref 2)], [sightRow .ro (sights M c), noteRow .ro (notes M d), intRow .ro (ints M e)], fun base => .tup [.one (.ref base), .one (.i .i64 (.sy fun _ => tgE st.val pl.val sk.val (sights M c) (notes M d) (ints M e)))], fun _ => [spanRowT fun _ => tgH st.val pl.val sk.val (sights M c) (notes M d) (ints M e)], Nat.le_of_ble_eq_true rfl, ⟨rfl, trivial⟩, .val rfl (.val rfl (.val rfl (.row (sight_from hs.ok.1.1) (.row (note_from hs.ok.1.2.1) (.row (int_from hs.ok.2.1) .nil))))), rfl, rfl, rfl, ⟨tauN_at (t := 0) (by simp), ⟨trivial, ⟨rfl⟩⟩, trivial⟩, ⟨spanT_le _ _, trivial⟩, (by
      intro ob hob
      rcases List.mem_cons.1 hob with e | h
      · subst e; exact .inl rfl
      · cases h), fun B => ?_⟩
    have hsz : (sights M c).length ≤ 140737488355328 := hs.ok.1.2.2.1
    have hnz : (notes M d).length ≤ 140737488355328 := hs.ok.1.2.2.2
    have hsz2 : (ints M e).length ≤ 140737488355328 := hs.ok.2.2
    clear hs
    revert hsz hnz hsz2
    generalize sights M c = ss
    generalize notes M d = ns
    generalize ints M e = cs
    intro hsz hnz hsz2
    generalize st.val = st
    generalize pl.val = pl
    generalize sk.val = sk
    cbv
    simp only [implies_true, and_true, true_and, IX.v_lit, IX.v_nat, IX.v_sy, BX.v_lit, BX.v_sy, NX.v_lit, NX.v_sy, addN, in_true, eq_self, Nat.succ_eq_add_one, intD_eq, encInt_le, encText_le, encSpan_le, encPair_le, encBox_le, encNote_le, encSight_le, cell_i_le, Nat.add_zero, Int.toNat_natCast, Nat.lt_irrefl, if_false, and_self, ncast, imp_self, in_self, in_self2, in_and, Int.cast_ofNat_Int, in_and2, noT, noF]
    refine ⟨⟨given_side rfl rfl rfl hsz hnz hsz2⟩, ?_⟩
    simp only [in_true, eq_self, and_true, true_and, ints, texts, spans, pairs, boxs, notes, sights, seen, lget, reduceIte, Nat.reduceEqDiff, reduceCtorEq, Nat.succ_ne_self, Nat.zero_ne_one, Nat.one_ne_zero, int_row0, int_row, text_row, span_row, pair_row, box_row, note_row, sight_row]
    refine ⟨[.old 5], ?_⟩
    cbv
    simp only [implies_true, and_true, true_and, IX.v_lit, IX.v_nat, IX.v_sy, BX.v_lit, BX.v_sy, NX.v_lit, NX.v_sy, addN, in_true, eq_self, Nat.succ_eq_add_one, intD_eq, encInt_le, encText_le, encSpan_le, encPair_le, encBox_le, encNote_le, encSight_le, cell_i_le, Nat.add_zero, Int.toNat_natCast, Nat.lt_irrefl, if_false, and_self, ncast, imp_self, in_self, in_self2, in_and, Int.cast_ofNat_Int, in_and2, ltB_t, ltB_f, leB_t, leB_f, eqB_t, eqB_f, ltNB_t, ltNB_f, leNB_t, leNB_f, eqNB_t, eqNB_f, noT, noF, Bool.and_eq_true, Bool.or_eq_true, Bool.and_eq_false_iff, Bool.or_eq_false_iff]
  · exact hs.elim
def spLettersL : Spec := fun args M base => match args with
  | [.agg [.i .i64 st, .i .i64 pl, .i .i64 sk, c, d], .one e] => ⟨In fun _ => okLife M c d ∧ okInts M e ∧ (ints M e).length ≤ 140737488355328, .tup [.one (.ref base), .one (.i .i64 (.sy fun _ => tgE st.val pl.val sk.val (sights M c) (notes M d) (ints M e)))], [textRowT fun _ => tgL st.val pl.val sk.val (sights M c) (notes M d) (ints M e)], [], (seen M c).reads ++ (seen M d).reads ++ (seen M e).reads⟩
  | _ => bad
theorem congr_spLettersL : spLettersL.Congr := by
  intro args M M' base hs h
  unfold spLettersL at *
  split at hs
  · simp only [okLife, okSights, okNotes, okInts, sights, notes, ints] at h ⊢
    rw [seen_congr (M := M) (M' := M') (fun i hi => h i (List.mem_append_left _ (List.mem_append_left _ hi))), seen_congr (M := M) (M' := M') (fun i hi => h i (List.mem_append_left _ (List.mem_append_right _ hi))), seen_congr (M := M) (M' := M') (fun i hi => h i (List.mem_append_right _ hi))]
  · exact hs.elim
theorem okLettersL : SpecOk F0 Tryz.prog 21 spLettersL := by
  refine spec_gen (e := en [(77, spTelling)]) (en_ok ⟨okTelling, trivial⟩) rfl (fn := Tryz.f21) (c := fbody Tryz.f21) (by kernel_rfl) rfl rfl (by kernel_rfl) congr_spLettersL fun args M base hs => ?_
  unfold spLettersL at hs ⊢
  split at hs
  · rename_i st pl sk c d e
    refine ⟨[.agg [.i .i64 (.sy fun _ => st.val), .i .i64 (.sy fun _ => pl.val), .i .i64 (.sy fun _ => sk.val), .ref 0, .ref 1], .one (.ref 2)], [sightRow .ro (sights M c), noteRow .ro (notes M d), intRow .ro (ints M e)], fun base => .tup [.one (.ref base), .one (.i .i64 (.sy fun _ => tgE st.val pl.val sk.val (sights M c) (notes M d) (ints M e)))], fun _ => [textRowT fun _ => tgL st.val pl.val sk.val (sights M c) (notes M d) (ints M e)], Nat.le_of_ble_eq_true rfl, ⟨rfl, trivial⟩, .val rfl (.val rfl (.val rfl (.row (sight_from hs.ok.1.1) (.row (note_from hs.ok.1.2.1) (.row (int_from hs.ok.2.1) .nil))))), rfl, rfl, rfl, ⟨tauN_at (t := 0) (by simp), ⟨trivial, ⟨rfl⟩⟩, trivial⟩, ⟨textT_le _ _, trivial⟩, (by
      intro ob hob
      rcases List.mem_cons.1 hob with e | h
      · subst e; exact .inl rfl
      · cases h), fun B => ?_⟩
    have hsz : (sights M c).length ≤ 140737488355328 := hs.ok.1.2.2.1
    have hnz : (notes M d).length ≤ 140737488355328 := hs.ok.1.2.2.2
    have hsz2 : (ints M e).length ≤ 140737488355328 := hs.ok.2.2
    clear hs
    revert hsz hnz hsz2
    generalize sights M c = ss
    generalize notes M d = ns
    generalize ints M e = cs
    intro hsz hnz hsz2
    generalize st.val = st
    generalize pl.val = pl
    generalize sk.val = sk
    cbv
    simp only [implies_true, and_true, true_and, IX.v_lit, IX.v_nat, IX.v_sy, BX.v_lit, BX.v_sy, NX.v_lit, NX.v_sy, addN, in_true, eq_self, Nat.succ_eq_add_one, intD_eq, encInt_le, encText_le, encSpan_le, encPair_le, encBox_le, encNote_le, encSight_le, cell_i_le, Nat.add_zero, Int.toNat_natCast, Nat.lt_irrefl, if_false, and_self, ncast, imp_self, in_self, in_self2, in_and, Int.cast_ofNat_Int, in_and2, noT, noF]
    refine ⟨⟨given_side rfl rfl rfl hsz hnz hsz2⟩, ?_⟩
    simp only [in_true, eq_self, and_true, true_and, ints, texts, spans, pairs, boxs, notes, sights, seen, lget, reduceIte, Nat.reduceEqDiff, reduceCtorEq, Nat.succ_ne_self, Nat.zero_ne_one, Nat.one_ne_zero, int_row0, int_row, text_row, span_row, pair_row, box_row, note_row, sight_row]
    refine ⟨[.old 6], ?_⟩
    cbv
    simp only [implies_true, and_true, true_and, IX.v_lit, IX.v_nat, IX.v_sy, BX.v_lit, BX.v_sy, NX.v_lit, NX.v_sy, addN, in_true, eq_self, Nat.succ_eq_add_one, intD_eq, encInt_le, encText_le, encSpan_le, encPair_le, encBox_le, encNote_le, encSight_le, cell_i_le, Nat.add_zero, Int.toNat_natCast, Nat.lt_irrefl, if_false, and_self, ncast, imp_self, in_self, in_self2, in_and, Int.cast_ofNat_Int, in_and2, ltB_t, ltB_f, leB_t, leB_f, eqB_t, eqB_f, ltNB_t, ltNB_f, leNB_t, leNB_f, eqNB_t, eqNB_f, noT, noF, Bool.and_eq_true, Bool.or_eq_true, Bool.and_eq_false_iff, Bool.or_eq_false_iff]
  · exact hs.elim
end Go.Proofs.YthgllnnlngihoaaGreat.Sx
end
section
set_option linter.unusedVariables false
set_option linter.unusedSimpArgs false
set_option maxRecDepth 100000
namespace Go.Proofs.YthgllnnlngihoaaGreat.Sx
open Go.RowKit

def spBox : Spec := fun args _ _ => match args with
  | [.one (.i .i64 a), .one (.i .i64 b), .one (.i .i64 c), .one (.i .i64 d)] => gives True (.agg [.i .i64 (.sy fun _ => a.val), .i .i64 (.sy fun _ => b.val), .i .i64 (.sy fun _ => c.val), .i .i64 (.sy fun _ => d.val)])
  | _ => bad
theorem okBox : SpecOk F0 Tryz.prog 61 spBox := by
  refine spec_pure (e := en []) (en_ok trivial) rfl (fn := Tryz.f61) (c := fbody Tryz.f61) (by kernel_rfl) rfl rfl (by kernel_rfl) (fun _ _ _ _ => rfl) fun args M base hs => ?_
  unfold spBox at hs ⊢
  split at hs
  · refine ⟨Nat.le_of_ble_eq_true rfl, rfl, rfl, rfl, rfl, fun B => ?_⟩
    cbv
    simp only [implies_true, and_true, true_and, IX.v_lit, IX.v_nat, IX.v_sy, BX.v_lit, BX.v_sy, NX.v_lit, NX.v_sy, addN, in_true, eq_self, Nat.succ_eq_add_one, intD_eq, encInt_le, encText_le, encSpan_le, encPair_le, encBox_le, encNote_le, encSight_le, cell_i_le, Nat.add_zero, Int.toNat_natCast, Nat.lt_irrefl, if_false, and_self, ncast, imp_self, in_self, in_self2, in_and, Int.cast_ofNat_Int, in_and2, ltB_t, ltB_f, leB_t, leB_f, eqB_t, eqB_f, ltNB_t, ltNB_f, leNB_t, leNB_f, eqNB_t, eqNB_f, noT, noF, Bool.and_eq_true, Bool.or_eq_true, Bool.and_eq_false_iff, Bool.or_eq_false_iff]
  · exact hs.elim
def exSS : List SightD := [⟨1, 1700, 0, 5, 0, 5, ⟨#[65, 46]⟩, 20, 30⟩, ⟨2, 1710, 4, 9, 3, 9, ⟨#[46, 66]⟩, 5, 25⟩, ⟨3, 1720, 17, 22, 3, 4, ⟨#[65, 46]⟩, 0, 40⟩]
def sightRowT (xs : Unit → List SightD) : Ob := .row .own 64 9 (.sy (fun _ => (xs ()).length) 0) fun e => encSight fun _ => (xs ()).getD e sightD
theorem sightT_le (xs : Unit → List SightD) (τ : Nat → Option Src) : ObLe τ (sightRowT xs) (sightRowT xs) := rowOf_le sightCod .own (xs ()) τ
def exR (base : Nat) : IV := .agg [.i .i64 (.lit 10), .i .i64 (.lit 3), .i .i64 (.lit 1), .ref base, .c (.slice none 0 0)]
def spExample : Spec := fun args _ base => match args with
  | [] => ⟨True, exR base, [sightRowT fun _ => exSS], [], []⟩
  | _ => bad
theorem okExample : SpecOk F0 Tryz.prog 71 spExample := by
  refine spec_gen (e := en [(61, spBox)]) (en_ok ⟨okBox, trivial⟩) rfl (fn := Tryz.f71) (c := fbody Tryz.f71) (by kernel_rfl) rfl rfl (by kernel_rfl) (fun _ _ _ _ _ _ => rfl) fun args M base hs => ?_
  unfold spExample at hs ⊢
  split at hs
  · refine ⟨[], [], exR, fun _ => [sightRowT fun _ => exSS], Nat.le_of_ble_eq_true rfl, trivial, .nil, rfl, rfl, rfl, ⟨⟨trivial, trivial⟩, ⟨trivial, trivial⟩, ⟨trivial, trivial⟩, tauN_at (t := 0) (by simp), rfl, trivial⟩, ⟨sightT_le _ _, trivial⟩, (by
      intro ob hob
      rcases List.mem_cons.1 hob with e | h
      · subst e; exact .inl rfl
      · cases h), fun B => ?_⟩
    cbv
    simp only [implies_true, and_true, true_and, IX.v_lit, IX.v_nat, IX.v_sy, BX.v_lit, BX.v_sy, NX.v_lit, NX.v_sy, addN, in_true, eq_self, Nat.succ_eq_add_one, intD_eq, encInt_le, encText_le, encSpan_le, encPair_le, encBox_le, encNote_le, encSight_le, cell_i_le, Nat.add_zero, Int.toNat_natCast, Nat.lt_irrefl, if_false, and_self, ncast, imp_self, in_self, in_self2, in_and, Int.cast_ofNat_Int, in_and2, ltB_t, ltB_f, leB_t, leB_f, eqB_t, eqB_f, ltNB_t, ltNB_f, leNB_t, leNB_f, eqNB_t, eqNB_f, noT, noF, Bool.and_eq_true, Bool.or_eq_true, Bool.and_eq_false_iff, Bool.or_eq_false_iff]
    refine ⟨[.old 1], ?_⟩
    cbv
    simp only [implies_true, and_true, true_and, IX.v_lit, IX.v_nat, IX.v_sy, BX.v_lit, BX.v_sy, NX.v_lit, NX.v_sy, addN, in_true, eq_self, Nat.succ_eq_add_one, intD_eq, encInt_le, encText_le, encSpan_le, encPair_le, encBox_le, encNote_le, encSight_le, cell_i_le, Nat.add_zero, Int.toNat_natCast, Nat.lt_irrefl, if_false, and_self, ncast, imp_self, in_self, in_self2, in_and, Int.cast_ofNat_Int, in_and2, ltB_t, ltB_f, leB_t, leB_f, eqB_t, eqB_f, ltNB_t, ltNB_f, leNB_t, leNB_f, eqNB_t, eqNB_f, noT, noF, Bool.and_eq_true, Bool.or_eq_true, Bool.and_eq_false_iff, Bool.or_eq_false_iff]
    refine ⟨⟨rfl⟩, ⟨fun e he => ?_⟩⟩
    match e, he with
    | 0, _ => exact ⟨⟨trivial, ⟨rfl⟩⟩, ⟨trivial, ⟨rfl⟩⟩, ⟨trivial, ⟨rfl⟩⟩, ⟨trivial, ⟨rfl⟩⟩, ⟨trivial, ⟨rfl⟩⟩, ⟨trivial, ⟨rfl⟩⟩, ⟨rfl⟩, ⟨trivial, ⟨rfl⟩⟩, ⟨trivial, ⟨rfl⟩⟩, trivial⟩
    | 1, _ => exact ⟨⟨trivial, ⟨rfl⟩⟩, ⟨trivial, ⟨rfl⟩⟩, ⟨trivial, ⟨rfl⟩⟩, ⟨trivial, ⟨rfl⟩⟩, ⟨trivial, ⟨rfl⟩⟩, ⟨trivial, ⟨rfl⟩⟩, ⟨rfl⟩, ⟨trivial, ⟨rfl⟩⟩, ⟨trivial, ⟨rfl⟩⟩, trivial⟩
    | 2, _ => exact ⟨⟨trivial, ⟨rfl⟩⟩, ⟨trivial, ⟨rfl⟩⟩, ⟨trivial, ⟨rfl⟩⟩, ⟨trivial, ⟨rfl⟩⟩, ⟨trivial, ⟨rfl⟩⟩, ⟨trivial, ⟨rfl⟩⟩, ⟨rfl⟩, ⟨trivial, ⟨rfl⟩⟩, ⟨trivial, ⟨rfl⟩⟩, trivial⟩
  · exact hs.elim

def spSeen1 : Spec := fun args M _ => match args with
  | [.agg [.i .i64 id, .i .i64 yr, .i .i64 x0, .i .i64 x1, .i .i64 y0, .i .i64 y1, .s ls, .i .i64 lo, .i .i64 hi], .one (.ref b)] => match M b with
    | some (.box o t [.i .i64 y]) => ⟨True, cbool (.sy fun _ => leB y.val yr.val), [], [], [b]⟩
    | _ => bad
  | _ => bad
theorem okSeen1 : SpecOk F0 Tryz.prog 106 spSeen1 := by
  refine spec_val (e := en []) (en_ok trivial) rfl (fn := Tryz.f106) (c := fbody Tryz.f106) (by kernel_rfl) rfl rfl (by kernel_rfl) ?_ fun args M base hs => ?_
  · intro args M M' base hs h
    unfold spSeen1 at *
    split at hs
    · simp only at h hs ⊢
      split at hs
      · rename_i hM
        simp only [hM] at h
        rw [h _ (List.mem_singleton.2 rfl), hM]
      · exact hs.elim
    · exact hs.elim
  · unfold spSeen1 at hs ⊢
    split at hs
    · split at hs
      · rename_i id yr x0 x1 y0 y1 ls lo hi b _ o t y hM
        simp only [hM]
        refine ⟨[.agg [.i .i64 (.sy fun _ => id.val), .i .i64 (.sy fun _ => yr.val), .i .i64 (.sy fun _ => x0.val), .i .i64 (.sy fun _ => x1.val), .i .i64 (.sy fun _ => y0.val), .i .i64 (.sy fun _ => y1.val), .s ls, .i .i64 (.sy fun _ => lo.val), .i .i64 (.sy fun _ => hi.val)], .one (.ref 0)], [.box false 0 [.i .i64 (.sy fun _ => y.val)]], Nat.le_of_ble_eq_true rfl, ⟨rfl, trivial⟩, .val rfl (.val rfl (.val rfl (.val rfl (.val rfl (.val rfl (.val rfl (.val rfl (.val rfl (.box hM (.val rfl .nil) .nil))))))))), rfl, trivial, trivial, fun B => ?_⟩
        cbv
        simp only [implies_true, and_true, true_and, IX.v_lit, IX.v_nat, IX.v_sy, BX.v_lit, BX.v_sy, NX.v_lit, NX.v_sy, addN, in_true, eq_self, Nat.succ_eq_add_one, intD_eq, encInt_le, encText_le, encSpan_le, encPair_le, encBox_le, encNote_le, encSight_le, cell_i_le, Nat.add_zero, Int.toNat_natCast, Nat.lt_irrefl, if_false, and_self, ncast, imp_self, in_self, in_self2, in_and, Int.cast_ofNat_Int, in_and2, ltB_t, ltB_f, leB_t, leB_f, eqB_t, eqB_f, ltNB_t, ltNB_f, leNB_t, leNB_f, eqNB_t, eqNB_f, noT, noF, Bool.and_eq_true, Bool.or_eq_true, Bool.and_eq_false_iff, Bool.or_eq_false_iff]
      · exact hs.elim
    · exact hs.elim

def firstFrom (ss : List SightD) (y : Int) : Int := match (List.range ss.length).find? (fun j => leB y (yearAt ss j)) with
  | some j => j
  | none => -1
theorem firstFrom_some {ss : List SightD} {y : Int} {i : Nat} (h : i < ss.length) (hb : leB y (yearAt ss i) = true) (hl : ∀ j, j < i → leB y (yearAt ss j) = false) : firstFrom ss y = i := by
  unfold firstFrom
  rw [List.find?_range_eq_some.2 ⟨hb, List.mem_range.2 h, fun j hj => by rw [hl j hj]; rfl⟩]
theorem firstFrom_none {ss : List SightD} {y : Int} (hl : ∀ j, j < ss.length → leB y (yearAt ss j) = false) : firstFrom ss y = -1 := by
  unfold firstFrom
  have : (List.range ss.length).find? (fun j => leB y (yearAt ss j)) = none := List.find?_eq_none.2 fun j hj => by rw [hl j (List.mem_range.1 hj)]; simp
  rw [this]
def spFirst : Spec := fun args M _ => match args with
  | [.one c, .one (.ref g)] => match M g with
    | some (.clo (.func f) [] [.ref b]) => match M b with
      | some (.box _ _ [.i .i64 y]) => ⟨isT (Nat.beq f 106) ∧ In fun _ => okSights M c ∧ (sights M c).length ≤ 140737488355328, cint .i64 (.sy fun _ => firstFrom (sights M c) y.val), [], [], g :: b :: (seen M c).reads⟩
      | _ => bad
    | _ => bad
  | _ => bad
theorem congrFirst : spFirst.Congr := by
  intro args M M' base hs h
  unfold spFirst at *
  split at hs
  · simp only at h hs ⊢
    split at hs
    · rename_i h1
      split at hs
      · rename_i h2
        simp only [h1, h2] at h
        have e1 := h _ (List.mem_cons_self ..)
        have e2 := h _ (List.mem_cons_of_mem _ (List.mem_cons_self ..))
        rw [e1, h1]
        simp only
        rw [e2, h2]
        simp only [okSights, sights]
        rw [seen_congr (M := M) (M' := M') (fun i hi => h i (List.mem_cons_of_mem _ (List.mem_cons_of_mem _ hi)))]
      · exact hs.elim
    · exact hs.elim
  · exact hs.elim
theorem okFirst : SpecOk F0 Tryz.prog 105 spFirst := by
  refine spec_val (e := en [(106, spSeen1)]) (en_ok ⟨okSeen1, trivial⟩) rfl (fn := Tryz.f105) (c := fbody Tryz.f105) (by kernel_rfl) rfl rfl (by kernel_rfl) congrFirst fun args M base hs => ?_
  unfold spFirst at hs ⊢
  split at hs
  · split at hs
    · split at hs
      · rename_i c g _ f b hM _ _ _ y hM2
        obtain ⟨hf, hs⟩ := hs
        obtain rfl := Nat.eq_of_beq_eq_true (isT_iff.1 hf)
        refine ⟨[.one (.ref 0), .one (.ref 1)], [sightRow .ro (sights M c), .clo (.func 106) [] [.ref 2], .box false 0 [.i .i64 (.sy fun _ => y.val)]], Nat.le_of_ble_eq_true rfl, trivial, .row (sight_from hs.ok.1) (.clo hM rfl (.box hM2 (.val rfl .nil) .nil) .nil), rfl, by trivial, by trivial, fun B => ?_⟩
        have hsz : (sights M c).length ≤ 140737488355328 := hs.ok.2
        clear hs
        show vc _ _ _ _ fun x st => _ ∧ _ ∧ IvLe _ _ (cint .i64 (.sy fun _ => firstFrom (sights M c) y.val))
        revert hsz
        generalize sights M c = ss
        generalize y.val = y
        intro hsz
        cbv
        simp only [implies_true, and_true, true_and, IX.v_lit, IX.v_nat, IX.v_sy, BX.v_lit, BX.v_sy, NX.v_lit, NX.v_sy, addN, in_true, eq_self, Nat.succ_eq_add_one, intD_eq, encInt_le, encText_le, encSpan_le, encPair_le, encBox_le, encNote_le, encSight_le, cell_i_le, Nat.add_zero, Int.toNat_natCast, Nat.lt_irrefl, if_false, and_self, ncast, imp_self, in_self, in_self2, in_and, Int.cast_ofNat_Int, in_and2, ltB_t, ltB_f, leB_t, leB_f, eqB_t, eqB_f, ltNB_t, ltNB_f, leNB_t, leNB_f, eqNB_t, eqNB_f, noT, noF, Bool.and_eq_true, Bool.or_eq_true, Bool.and_eq_false_iff, Bool.or_eq_false_iff]
        refine ⟨{i : Nat // i ≤ ss.length ∧ ∀ j, j < i → leB y (yearAt ss j) = false}, fun i => ⟨[(0, .lit true, .one (.ref 0)), (1, .lit true, .one (.ref 1)), (7, .lit true, cint .i64 (.nat (fun _ => ss.length) 0)), (8, .lit true, cint .i64 (.nat (fun _ => i.1) 0))], [(0, sightRow .ro ss), (1, .clo (.func 106) [] [.ref 2]), (2, .box false 0 [.i .i64 (.sy fun _ => y)])], 3⟩, fun i => ss.length - i.1, ⟨0, by omega, fun j hj => by omega⟩, LeBy.le (pins := []) (fun i u h => by cases h) (l := [(0, .old 0), (1, .old 1), (2, .old 2)]) ?_, fun i => ?_⟩
        · cbv
          simp only [implies_true, and_true, true_and, IX.v_lit, IX.v_nat, IX.v_sy, BX.v_lit, BX.v_sy, NX.v_lit, NX.v_sy, addN, in_true, eq_self, Nat.succ_eq_add_one, intD_eq, encInt_le, encText_le, encSpan_le, encPair_le, encBox_le, encNote_le, encSight_le, cell_i_le, Nat.add_zero, Int.toNat_natCast, Nat.lt_irrefl, if_false, and_self, ncast, imp_self, in_self, in_self2, in_and, Int.cast_ofNat_Int, in_and2, ltB_t, ltB_f, leB_t, leB_f, eqB_t, eqB_f, ltNB_t, ltNB_f, leNB_t, leNB_f, eqNB_t, eqNB_f, noT, noF, Bool.and_eq_true, Bool.or_eq_true, Bool.and_eq_false_iff, Bool.or_eq_false_iff]
        · obtain ⟨i, hi, hl⟩ := i
          cbv
          simp only [implies_true, and_true, true_and, IX.v_lit, IX.v_nat, IX.v_sy, BX.v_lit, BX.v_sy, NX.v_lit, NX.v_sy, addN, in_true, eq_self, Nat.succ_eq_add_one, intD_eq, encInt_le, encText_le, encSpan_le, encPair_le, encBox_le, encNote_le, encSight_le, cell_i_le, Nat.add_zero, Int.toNat_natCast, Nat.lt_irrefl, if_false, and_self, ncast, imp_self, in_self, in_self2, in_and, Int.cast_ofNat_Int, in_and2, ltB_t, ltB_f, leB_t, leB_f, eqB_t, eqB_f, ltNB_t, ltNB_f, leNB_t, leNB_f, eqNB_t, eqNB_f, noT, noF, Bool.and_eq_true, Bool.or_eq_true, Bool.and_eq_false_iff, Bool.or_eq_false_iff]
          refine ⟨fun hlt => ?_, fun hlt => ?_⟩
          · cbv
            simp only [implies_true, and_true, true_and, IX.v_lit, IX.v_nat, IX.v_sy, BX.v_lit, BX.v_sy, NX.v_lit, NX.v_sy, addN, in_true, eq_self, Nat.succ_eq_add_one, intD_eq, encInt_le, encText_le, encSpan_le, encPair_le, encBox_le, encNote_le, encSight_le, cell_i_le, Nat.add_zero, Int.toNat_natCast, Nat.lt_irrefl, if_false, and_self, ncast, imp_self, in_self, in_self2, in_and, Int.cast_ofNat_Int, in_and2, noT, noF]
            refine ⟨⟨hlt⟩, ⟨hlt⟩, fun hb => ?_, fun hb => ?_⟩
            · have hb : leB y (yearAt ss i) = true := hb
              cbv
              simp only [implies_true, and_true, true_and, IX.v_lit, IX.v_nat, IX.v_sy, BX.v_lit, BX.v_sy, NX.v_lit, NX.v_sy, addN, in_true, eq_self, Nat.succ_eq_add_one, intD_eq, encInt_le, encText_le, encSpan_le, encPair_le, encBox_le, encNote_le, encSight_le, cell_i_le, Nat.add_zero, Int.toNat_natCast, Nat.lt_irrefl, if_false, and_self, ncast, imp_self, in_self, in_self2, in_and, Int.cast_ofNat_Int, in_and2, ltB_t, ltB_f, leB_t, leB_f, eqB_t, eqB_f, ltNB_t, ltNB_f, leNB_t, leNB_f, eqNB_t, eqNB_f, noT, noF, Bool.and_eq_true, Bool.or_eq_true, Bool.and_eq_false_iff, Bool.or_eq_false_iff]
              exact ⟨firstFrom_some hlt hb hl⟩
            · have hb : leB y (yearAt ss i) = false := hb
              cbv
              simp only [implies_true, and_true, true_and, IX.v_lit, IX.v_nat, IX.v_sy, BX.v_lit, BX.v_sy, NX.v_lit, NX.v_sy, addN, in_true, eq_self, Nat.succ_eq_add_one, intD_eq, encInt_le, encText_le, encSpan_le, encPair_le, encBox_le, encNote_le, encSight_le, cell_i_le, Nat.add_zero, Int.toNat_natCast, Nat.lt_irrefl, if_false, and_self, ncast, imp_self, in_self, in_self2, in_and, Int.cast_ofNat_Int, in_and2, ltB_t, ltB_f, leB_t, leB_f, eqB_t, eqB_f, ltNB_t, ltNB_f, leNB_t, leNB_f, eqNB_t, eqNB_f, noT, noF, Bool.and_eq_true, Bool.or_eq_true, Bool.and_eq_false_iff, Bool.or_eq_false_iff]
              refine ⟨⟨nat_fits hlt hsz⟩, ⟨i + 1, by omega, fun j hj => ?_⟩, LeBy.le (pins := []) (fun i u h => by cases h) (l := [(0, .old 0), (1, .old 1), (2, .old 2)]) ?_, by show ss.length - (i + 1) < ss.length - i; omega⟩
              · rcases Nat.lt_or_ge j i with h1 | h1
                · exact hl j h1
                · rw [show j = i by omega]
                  exact hb
              · cbv
                simp only [implies_true, and_true, true_and, IX.v_lit, IX.v_nat, IX.v_sy, BX.v_lit, BX.v_sy, NX.v_lit, NX.v_sy, addN, in_true, eq_self, Nat.succ_eq_add_one, intD_eq, encInt_le, encText_le, encSpan_le, encPair_le, encBox_le, encNote_le, encSight_le, cell_i_le, Nat.add_zero, Int.toNat_natCast, Nat.lt_irrefl, if_false, and_self, ncast, imp_self, in_self, in_self2, in_and, Int.cast_ofNat_Int, in_and2, ltB_t, ltB_f, leB_t, leB_f, eqB_t, eqB_f, ltNB_t, ltNB_f, leNB_t, leNB_f, eqNB_t, eqNB_f, noT, noF, Bool.and_eq_true, Bool.or_eq_true, Bool.and_eq_false_iff, Bool.or_eq_false_iff]
          · cbv
            simp only [implies_true, and_true, true_and, IX.v_lit, IX.v_nat, IX.v_sy, BX.v_lit, BX.v_sy, NX.v_lit, NX.v_sy, addN, in_true, eq_self, Nat.succ_eq_add_one, intD_eq, encInt_le, encText_le, encSpan_le, encPair_le, encBox_le, encNote_le, encSight_le, cell_i_le, Nat.add_zero, Int.toNat_natCast, Nat.lt_irrefl, if_false, and_self, ncast, imp_self, in_self, in_self2, in_and, Int.cast_ofNat_Int, in_and2, ltB_t, ltB_f, leB_t, leB_f, eqB_t, eqB_f, ltNB_t, ltNB_f, leNB_t, leNB_f, eqNB_t, eqNB_f, noT, noF, Bool.and_eq_true, Bool.or_eq_true, Bool.and_eq_false_iff, Bool.or_eq_false_iff]
            exact ⟨firstFrom_none fun j hj => hl j (by omega)⟩
      · exact hs.elim
    · exact hs.elim
  · exact hs.elim
end Go.Proofs.YthgllnnlngihoaaGreat.Sx
end
section
set_option linter.unusedVariables false
set_option linter.unusedSimpArgs false
set_option maxRecDepth 100000
namespace Go.Proofs.YthgllnnlngihoaaGreat.Sx
open Go.RowKit

def sameT (l m : List ByteArray) : Bool := decide (l.length = m.length) && (List.range l.length).all fun j => eqS (l.getD j textD) (m.getD j textD)
def spSameTexts : Spec := fun args M _ => match args with
  | [.one c, .one d] => ⟨In fun _ => okTexts M c ∧ (texts M c).length ≤ 140737488355328 ∧ okTexts M d, cbool (.sy fun _ => sameT (texts M c) (texts M d)), [], [], (seen M c).reads ++ (seen M d).reads⟩
  | _ => bad
theorem congrSameTexts : spSameTexts.Congr := by
  intro args M M' base hs h
  unfold spSameTexts at *
  split at hs
  · simp only [texts, okTexts] at h ⊢
    rw [seen_congr (M := M) (M' := M') (fun i hi => h i (List.mem_append_left _ hi)), seen_congr (M := M) (M' := M') (fun i hi => h i (List.mem_append_right _ hi))]
  · exact hs.elim
theorem okSameTexts : SpecOk F0 Tryz.prog 27 spSameTexts := by
  refine spec_val (e := en []) (en_ok trivial) rfl (fn := Tryz.f27) (c := fbody Tryz.f27) (by kernel_rfl) rfl rfl (by kernel_rfl) congrSameTexts fun args M base hs => ?_
  unfold spSameTexts at hs ⊢
  split at hs
  · rename_i c d
    refine ⟨[.one (.ref 0), .one (.ref 1)], [textRow .ro (texts M c), textRow .ro (texts M d)], Nat.le_of_ble_eq_true rfl, trivial, .row (text_from hs.ok.1) (.row (text_from hs.ok.2.2) .nil), rfl, rfl, rfl, fun B => ?_⟩
    have hsz : (texts M c).length ≤ 140737488355328 := hs.ok.2.1
    clear hs
    show vc _ _ _ _ fun x st => _ ∧ _ ∧ IvLe _ _ (cbool (.sy fun _ => sameT (texts M c) (texts M d)))
    revert hsz
    generalize texts M c = xs
    generalize texts M d = ys
    intro hsz
    cbv
    simp only [implies_true, and_true, true_and, IX.v_lit, IX.v_nat, IX.v_sy, BX.v_lit, BX.v_sy, NX.v_lit, NX.v_sy, addN, in_true, eq_self, Nat.succ_eq_add_one, intD_eq, encInt_le, encText_le, encSpan_le, encPair_le, encBox_le, encNote_le, encSight_le, cell_i_le, Nat.add_zero, Int.toNat_natCast, Nat.lt_irrefl, if_false, and_self, ncast, imp_self, in_self, in_self2, in_and, Int.cast_ofNat_Int, in_and2, ltB_t, ltB_f, leB_t, leB_f, eqB_t, eqB_f, ltNB_t, ltNB_f, leNB_t, leNB_f, eqNB_t, eqNB_f, noT, noF, Bool.and_eq_true, Bool.or_eq_true, Bool.and_eq_false_iff, Bool.or_eq_false_iff]
    refine ⟨fun h => ?_, fun h => ?_⟩
    · cbv
      simp only [implies_true, and_true, true_and, IX.v_lit, IX.v_nat, IX.v_sy, BX.v_lit, BX.v_sy, NX.v_lit, NX.v_sy, addN, in_true, eq_self, Nat.succ_eq_add_one, intD_eq, encInt_le, encText_le, encSpan_le, encPair_le, encBox_le, encNote_le, encSight_le, cell_i_le, Nat.add_zero, Int.toNat_natCast, Nat.lt_irrefl, if_false, and_self, ncast, imp_self, in_self, in_self2, in_and, Int.cast_ofNat_Int, in_and2, ltB_t, ltB_f, leB_t, leB_f, eqB_t, eqB_f, ltNB_t, ltNB_f, leNB_t, leNB_f, eqNB_t, eqNB_f, noT, noF, Bool.and_eq_true, Bool.or_eq_true, Bool.and_eq_false_iff, Bool.or_eq_false_iff]
      refine ⟨?_⟩
      unfold sameT
      rw [decide_eq_false (by (first | omega | (simp only [ncast] at *; omega))), Bool.false_and]
    · have hl0 : xs.length = ys.length := by (first | omega | (simp only [ncast] at *; omega))
      cbv
      simp only [implies_true, and_true, true_and, IX.v_lit, IX.v_nat, IX.v_sy, BX.v_lit, BX.v_sy, NX.v_lit, NX.v_sy, addN, in_true, eq_self, Nat.succ_eq_add_one, intD_eq, encInt_le, encText_le, encSpan_le, encPair_le, encBox_le, encNote_le, encSight_le, cell_i_le, Nat.add_zero, Int.toNat_natCast, Nat.lt_irrefl, if_false, and_self, ncast, imp_self, in_self, in_self2, in_and, Int.cast_ofNat_Int, in_and2, ltB_t, ltB_f, leB_t, leB_f, eqB_t, eqB_f, ltNB_t, ltNB_f, leNB_t, leNB_f, eqNB_t, eqNB_f, noT, noF, Bool.and_eq_true, Bool.or_eq_true, Bool.and_eq_false_iff, Bool.or_eq_false_iff]
      refine ⟨{i : Nat // i ≤ xs.length ∧ ∀ j, j < i → eqS (xs.getD j textD) (ys.getD j textD) = true}, fun i => ⟨[(0, .lit true, .one (.ref 0)), (1, .lit true, .one (.ref 1)), (5, .lit true, cint .i64 (.nat (fun _ => i.1) 0))], [(0, textRow .ro xs), (1, textRow .ro ys)], 2⟩, fun i => xs.length - i.1, ⟨0, by omega, fun j hj => by omega⟩, LeBy.le (pins := []) (fun i u h => by cases h) (l := [(0, .old 0), (1, .old 1)]) ?_, fun i => ?_⟩
      · cbv
        simp only [implies_true, and_true, true_and, IX.v_lit, IX.v_nat, IX.v_sy, BX.v_lit, BX.v_sy, NX.v_lit, NX.v_sy, addN, in_true, eq_self, Nat.succ_eq_add_one, intD_eq, encInt_le, encText_le, encSpan_le, encPair_le, encBox_le, encNote_le, encSight_le, cell_i_le, Nat.add_zero, Int.toNat_natCast, Nat.lt_irrefl, if_false, and_self, ncast, imp_self, in_self, in_self2, in_and, Int.cast_ofNat_Int, in_and2, ltB_t, ltB_f, leB_t, leB_f, eqB_t, eqB_f, ltNB_t, ltNB_f, leNB_t, leNB_f, eqNB_t, eqNB_f, noT, noF, Bool.and_eq_true, Bool.or_eq_true, Bool.and_eq_false_iff, Bool.or_eq_false_iff]
      · obtain ⟨i, hi, hl⟩ := i
        cbv
        simp only [implies_true, and_true, true_and, IX.v_lit, IX.v_nat, IX.v_sy, BX.v_lit, BX.v_sy, NX.v_lit, NX.v_sy, addN, in_true, eq_self, Nat.succ_eq_add_one, intD_eq, encInt_le, encText_le, encSpan_le, encPair_le, encBox_le, encNote_le, encSight_le, cell_i_le, Nat.add_zero, Int.toNat_natCast, Nat.lt_irrefl, if_false, and_self, ncast, imp_self, in_self, in_self2, in_and, Int.cast_ofNat_Int, in_and2, ltB_t, ltB_f, leB_t, leB_f, eqB_t, eqB_f, ltNB_t, ltNB_f, leNB_t, leNB_f, eqNB_t, eqNB_f, noT, noF, Bool.and_eq_true, Bool.or_eq_true, Bool.and_eq_false_iff, Bool.or_eq_false_iff]
        refine ⟨fun hlt => ?_, fun hlt => ?_⟩
        · cbv
          simp only [implies_true, and_true, true_and, IX.v_lit, IX.v_nat, IX.v_sy, BX.v_lit, BX.v_sy, NX.v_lit, NX.v_sy, addN, in_true, eq_self, Nat.succ_eq_add_one, intD_eq, encInt_le, encText_le, encSpan_le, encPair_le, encBox_le, encNote_le, encSight_le, cell_i_le, Nat.add_zero, Int.toNat_natCast, Nat.lt_irrefl, if_false, and_self, ncast, imp_self, in_self, in_self2, in_and, Int.cast_ofNat_Int, in_and2, noT, noF]
          refine ⟨⟨hlt⟩, ⟨hlt⟩, ⟨by omega⟩, ⟨by omega⟩, fun hne => ?_, fun heq => ?_⟩
          · cbv
            simp only [implies_true, and_true, true_and, IX.v_lit, IX.v_nat, IX.v_sy, BX.v_lit, BX.v_sy, NX.v_lit, NX.v_sy, addN, in_true, eq_self, Nat.succ_eq_add_one, intD_eq, encInt_le, encText_le, encSpan_le, encPair_le, encBox_le, encNote_le, encSight_le, cell_i_le, Nat.add_zero, Int.toNat_natCast, Nat.lt_irrefl, if_false, and_self, ncast, imp_self, in_self, in_self2, in_and, Int.cast_ofNat_Int, in_and2, ltB_t, ltB_f, leB_t, leB_f, eqB_t, eqB_f, ltNB_t, ltNB_f, leNB_t, leNB_f, eqNB_t, eqNB_f, noT, noF, Bool.and_eq_true, Bool.or_eq_true, Bool.and_eq_false_iff, Bool.or_eq_false_iff]
            refine ⟨?_⟩
            unfold sameT
            have : ((List.range xs.length).all fun j => eqS (xs.getD j textD) (ys.getD j textD)) = false := List.all_eq_false.2 ⟨i, List.mem_range.2 hlt, by rw [hne]; exact Bool.false_ne_true⟩
            rw [this, Bool.and_false]
          · cbv
            simp only [implies_true, and_true, true_and, IX.v_lit, IX.v_nat, IX.v_sy, BX.v_lit, BX.v_sy, NX.v_lit, NX.v_sy, addN, in_true, eq_self, Nat.succ_eq_add_one, intD_eq, encInt_le, encText_le, encSpan_le, encPair_le, encBox_le, encNote_le, encSight_le, cell_i_le, Nat.add_zero, Int.toNat_natCast, Nat.lt_irrefl, if_false, and_self, ncast, imp_self, in_self, in_self2, in_and, Int.cast_ofNat_Int, in_and2, ltB_t, ltB_f, leB_t, leB_f, eqB_t, eqB_f, ltNB_t, ltNB_f, leNB_t, leNB_f, eqNB_t, eqNB_f, noT, noF, Bool.and_eq_true, Bool.or_eq_true, Bool.and_eq_false_iff, Bool.or_eq_false_iff]
            refine ⟨⟨nat_fits hlt hsz⟩, ⟨i + 1, by omega, fun j hj => ?_⟩, LeBy.le (pins := []) (fun i u h => by cases h) (l := [(0, .old 0), (1, .old 1)]) ?_, by show xs.length - (i + 1) < xs.length - i; omega⟩
            · rcases Nat.lt_or_ge j i with h1 | h1
              · exact hl j h1
              · rw [show j = i by omega]
                exact heq
            · cbv
              simp only [implies_true, and_true, true_and, IX.v_lit, IX.v_nat, IX.v_sy, BX.v_lit, BX.v_sy, NX.v_lit, NX.v_sy, addN, in_true, eq_self, Nat.succ_eq_add_one, intD_eq, encInt_le, encText_le, encSpan_le, encPair_le, encBox_le, encNote_le, encSight_le, cell_i_le, Nat.add_zero, Int.toNat_natCast, Nat.lt_irrefl, if_false, and_self, ncast, imp_self, in_self, in_self2, in_and, Int.cast_ofNat_Int, in_and2, ltB_t, ltB_f, leB_t, leB_f, eqB_t, eqB_f, ltNB_t, ltNB_f, leNB_t, leNB_f, eqNB_t, eqNB_f, noT, noF, Bool.and_eq_true, Bool.or_eq_true, Bool.and_eq_false_iff, Bool.or_eq_false_iff]
        · cbv
          simp only [implies_true, and_true, true_and, IX.v_lit, IX.v_nat, IX.v_sy, BX.v_lit, BX.v_sy, NX.v_lit, NX.v_sy, addN, in_true, eq_self, Nat.succ_eq_add_one, intD_eq, encInt_le, encText_le, encSpan_le, encPair_le, encBox_le, encNote_le, encSight_le, cell_i_le, Nat.add_zero, Int.toNat_natCast, Nat.lt_irrefl, if_false, and_self, ncast, imp_self, in_self, in_self2, in_and, Int.cast_ofNat_Int, in_and2, ltB_t, ltB_f, leB_t, leB_f, eqB_t, eqB_f, ltNB_t, ltNB_f, leNB_t, leNB_f, eqNB_t, eqNB_f, noT, noF, Bool.and_eq_true, Bool.or_eq_true, Bool.and_eq_false_iff, Bool.or_eq_false_iff]
          refine ⟨?_⟩
          unfold sameT
          rw [decide_eq_true hl0, Bool.true_and]
          exact List.all_eq_true.2 fun j hj => hl j (by have := List.mem_range.1 hj; omega)
  · exact hs.elim
end Go.Proofs.YthgllnnlngihoaaGreat.Sx
end
