/- slices.Delete at rows of data of whatever size; slices.Delete at sights, notes; fewer. -/
import Derived.Lib.SlicesDelete
import Derived.Deep.RegionLaw
import Derived.Test.YthgllnnlngihoaaGreatSz15
section
set_option linter.unusedVariables false
set_option linter.unusedSimpArgs false
set_option maxRecDepth 100000
namespace Go.Proofs.YthgllnnlngihoaaGreat.Sx
open Go.RowKit Go.Sort Go.Shelf Go.Lib

theorem run_clear_cells {P : Program} (w : World) (t e ty : TypeId) (z : Value) (ht : P.underlying t = some (.slice e)) (hv : ∀ w, (zeroValue e).run P w = .ok z w) (b o n c m : Nat) (hn : 0 < n) (zc : List Value) (hzc : (Builtin.zeroCells z.cells n).toList = zc) (hm : zc.length = m) (h1 : ∀ v ∈ zc, v.oneCell' = true)
    (hc : ∀ j, j < m → (w.cell? ⟨b, o + j, none⟩).isSome = true) (hf : ∀ j, j < m → w.frozen? ⟨b, o + j, none⟩ = false) :
    (Builtin.clear_ #[t] ty #[.slice (some ⟨b, o, none⟩) n c]).run P w = .ok (.tuple #[]) (w.setCells b o zc) := by
  have hst := run_storeCells_cells (P := P) b o zc 0 w (by simpa [hm] using hc) (by simpa [hm] using hf) h1
  simp only [Nat.add_zero] at hst
  obtain ⟨q, rfl⟩ : ∃ q, n = q + 1 := ⟨n - 1, by omega⟩
  simp [Builtin.clear_, run_underlying ht, hv, hzc, hst]

set_option maxHeartbeats 4000000 in
set_option maxRecDepth 1000000 in
theorem delete_run {P : Program} {ρ : Shelf.Ren} (L : SlLaysE0.n45 P ρ) (k : Nat) (z23 : ∀ w, (Go.sizeOf (ρ.t 23)).run P w = .ok k w) (z : Value) (v23 : ∀ w, (zeroValue (ρ.t 23)).run P w = .ok z w) (i0 : TypeInfo) (hi0 : P.info? (ρ.t 23) = some i0) (hz1 : i0.size = k)
    (blk off cap i j n : Nat) (w : World) (hcells : ∀ t, t < n * k → ∃ u, w.cell? ⟨blk, off + t, none⟩ = some u ∧ u.oneCell' = true ∧ w.frozen? ⟨blk, off + t, none⟩ = false) (hcap : n ≤ cap) (hm : cap ≤ 9223372036854775807) (hij : i < j) (hj : j ≤ n)
    (news zc : List Value) (hn1 : news.length = (n - j) * k) (hn2 : ∀ t u, news[t]? = some u → w.cell? ⟨blk, off + (j * k + t), none⟩ = some u) (hz2 : (Builtin.zeroCells z.cells (j - i)).toList = zc) (hz3 : zc.length = (j - i) * k) (hz4 : ∀ v ∈ zc, v.oneCell' = true) :
    Calls P (ρ.f 45) #[.slice (some ⟨blk, off, none⟩) n cap, .int .i64 i, .int .i64 j] w fun e w' => e = .returned (.slice (some ⟨blk, off, none⟩) (n - (j - i)) cap) ∧ w' = (w.drew.setCells blk (off + i * k) news).setCells blk (off + (i + (n - j)) * k) zc := by
  have mixed := L.mixed; have t0 := L.t0; have a0 := L.a0; have z0 := L.z0; have v0 := L.v0; have t3 := L.t3; have a3 := L.a3; have z3 := L.z3; have v3 := L.v3; have t4 := L.t4; have a4 := L.a4; have z4 := L.z4; have v4 := L.v4; have t22 := L.t22; have a22 := L.a22; have z22 := L.z22; have v22 := L.v22
  have heq : ¬ i = j := by omega
  obtain ⟨A, hA, hsrc⟩ : ∃ A : Addr, (if cap = j then some (⟨blk, off, none⟩ : Addr) else some ⟨blk, off + j * k, none⟩) = some A ∧ Hid (∀ t u, news[t]? = some u → w.drew.cell? (A.add t) = some u) := by
    by_cases h : cap = j
    · refine ⟨⟨blk, off, none⟩, by simp [h], fun t u hu => ?_⟩
      have h0 : news.length = 0 := by rw [hn1, show n - j = 0 by omega, Nat.zero_mul]
      rw [List.length_eq_zero_iff.1 h0] at hu
      simp at hu
    · refine ⟨⟨blk, off + j * k, none⟩, by simp [h], fun t u hu => ?_⟩
      rw [Addr.add_lit, Nat.add_assoc]
      exact hn2 t u hu
  have s1 : Hid (news.length = (n - j) * k) := hn1
  have s2 : Hid (∀ u ∈ news, u.oneCell' = true) := by
    intro u hu
    obtain ⟨t, ht⟩ := List.mem_iff_getElem?.1 hu
    have hlt : t < (n - j) * k := by rw [← hn1]; exact (List.getElem?_eq_some_iff.1 ht).1
    have e : j * k + (n - j) * k = n * k := by rw [← Nat.add_mul]; congr 1; omega
    obtain ⟨u', h1, h2, _⟩ := hcells (j * k + t) (by omega)
    rw [hn2 t u ht] at h1
    cases h1
    exact h2
  have hik : i * k + (n - j) * k ≤ n * k := by rw [← Nat.add_mul]; exact Nat.mul_le_mul_right k (by omega)
  have s3 : Hid (∀ t, t < news.length → (w.drew.cell? ⟨blk, off + i * k + t, none⟩).isSome = true ∧ w.drew.frozen? ⟨blk, off + i * k + t, none⟩ = false) := by
    intro t ht
    rw [hn1] at ht
    rw [Nat.add_assoc]
    obtain ⟨u', h1, _, h3⟩ := hcells (i * k + t) (by omega)
    exact ⟨by show (w.cell? _).isSome = true; rw [h1]; rfl, h3⟩
  obtain ⟨W1, hW1⟩ : ∃ W1, W1 = w.drew.setCells blk (off + i * k) news := ⟨_, rfl⟩
  have hcl : ∀ ty, (Builtin.clear_ #[ρ.t 22] ty #[.slice (some ⟨blk, off + (i + (n - j)) * k, none⟩) (n - (i + (n - j))) (cap - (i + (n - j)))]).run P W1 = .ok (.tuple #[]) (W1.setCells blk (off + (i + (n - j)) * k) zc) := by
    intro ty
    have hne : n - (i + (n - j)) = j - i := by omega
    rw [hne]
    refine run_clear_cells W1 _ _ ty z t22 v23 blk _ _ _ ((j - i) * k) (by omega) zc hz2 hz3 hz4 (fun t ht => ?_) fun t ht => ?_
    all_goals
      have e : (i + (n - j)) * k + (j - i) * k = n * k := by rw [← Nat.add_mul]; congr 1; omega
      have e2 : (i + (n - j)) * k = i * k + (n - j) * k := Nat.add_mul ..
      obtain ⟨u', h1, _, h3⟩ := hcells ((i + (n - j)) * k + t) (by omega)
      rw [hW1, Nat.add_assoc]
    · rw [World.cell?_setCells_out blk news (off + i * k) w.drew ⟨blk, off + ((i + (n - j)) * k + t), none⟩ (fun _ _ => .inr (by show off + i * k + news.length ≤ off + ((i + (n - j)) * k + t); omega))]
      show (w.cell? _).isSome = true
      rw [h1]
      rfl
    · rw [World.frozen?_setCells]
      exact h3
  have hW : Hid (W1 = w.drew.setCells blk (off + i * k) news) := hW1
  have hic : i ≤ cap := by omega
  have hjc : j ≤ cap := by omega
  clear hW1 hcells hn1 hn2 hik
  obtain ⟨_, _, FG⟩ := L.f45
  go_enter FG, SlBodyN.n45_ntmps ρ
  go_wp2_with fail
  go_region_law_o (refine step_append_room rfl (.tmp 22) (.tmp 25) (ρ.t 22) rfl (ρ.t 23) i0 k t22 hi0 hz1 blk off i cap (by simp [Act.eval, Act.put]) A (n - j) (cap - j) news (by simp [Act.eval, Act.put]) s1.out hsrc.out s2.out (by omega) s3.out ?_; rw [← hW.out])
  go_wp2
  go_ret
  refine ⟨by rw [show n - (j - i) = i + (n - j) by omega]; rfl, ?_⟩
  rw [hW.out]

theorem heap_setCells {b : Nat} {t : TypeId} : ∀ (vs : List Value) (o : Nat) (w : World) (cur : Array Value), w.heap[b]? = some (.cells cur t (0, 0)) → ∃ cur', (w.setCells b o vs).heap[b]? = some (.cells cur' t (0, 0)) ∧ cur'.size = cur.size
  | [], o, w, cur, h => ⟨cur, h, rfl⟩
  | v :: r, o, w, cur, h => by
    obtain ⟨cur', h1, h2⟩ := heap_setCells r (o + 1) _ _ (heap_setCell_same w b o cur t v h)
    exact ⟨cur', h1, by rw [h2]; simp⟩
theorem heap_setCells_other {b q : Nat} (hq : q ≠ b) : ∀ (vs : List Value) (o : Nat) (w : World), (w.setCells b o vs).heap[q]? = w.heap[q]?
  | [], o, w => rfl
  | v :: r, o, w => by
    rw [World.setCells, heap_setCells_other hq r, heap_setCell_other _ _ _ _ hq]
theorem size_setCells (b : Nat) : ∀ (vs : List Value) (o : Nat) (w : World), (w.setCells b o vs).heap.size = w.heap.size
  | [], o, w => rfl
  | v :: r, o, w => by
    rw [World.setCells, size_setCells b r, World.size_setCell]
theorem os_setCells (b : Nat) : ∀ (vs : List Value) (o : Nat) (w : World), (w.setCells b o vs).os = w.os ∧ (w.setCells b o vs).tape = w.tape ∧ (w.setCells b o vs).output = w.output
  | [], o, w => ⟨rfl, rfl, rfl⟩
  | v :: r, o, w => os_setCells b r (o + 1) _

section
variable {α : Type} (C : Cod α)
def delL (xs : List α) (d : α) (i : Nat) : List α := (List.range xs.length).map fun e => if e < i then xs.getD e d else if e + 1 < xs.length then xs.getD (e + 1) d else d
theorem delL_len (xs : List α) (d : α) (i : Nat) : (delL xs d i).length = xs.length := by simp [delL]
theorem delL_get {xs : List α} {d : α} {i e : Nat} (h : e < xs.length) : (delL xs d i).getD e d = if e < i then xs.getD e d else if e + 1 < xs.length then xs.getD (e + 1) d else d := getD_range _ _ h

/-- What a row of one's own holds. -/
theorem own_cells {σ : Ren} {B : Nat} {O : Nat → Prop} {M : Mem} {w : World} (h : Sim B O σ M w) {i : Nat} {hv : Value} {t : TypeId} {len : NX} {get : Nat → List CV} (hi : σ i = some hv) (hM : M i = some (.row .own t C.k len get)) (hok : okRow C (seen M (.ref i))) (hpos : 0 < len.val) :
    ∃ g cap cur, hv = .slice (some ⟨g, 0, none⟩) len.val cap ∧ w.heap[g]? = some (.cells cur t (0, 0)) ∧ len.val ≤ cap ∧ cap ≤ maxLen ∧ cur.size = cap * C.k ∧ RowAt σ (fun n => cur[n]?) C.k len.val fun e => C.enc fun _ => (listOf C (seen M (.ref i))).getD e C.d := by
  obtain ⟨ob, hM', hr⟩ := h.ob i hv hi
  rw [hM] at hM'
  cases hM'
  obtain ⟨_, ⟨_, hl⟩ | ⟨g, cap, cur, e, hg, h1, h2, h3, hra⟩⟩ := hr
  · omega
  · have hs : seen M (.ref i) = ⟨True, len, C.k, get, [i]⟩ := by simp [seen, hM]
    have hlen : (listOf C (seen M (.ref i))).length = len.val := by rw [listOf_len, hs]
    obtain ⟨A, c, e2, _, _, _, hr2⟩ := loc_row (σ' := σ) C h (c := .ref i) (v := hv) ⟨by rw [e]; rfl, hi⟩ hok
    obtain ⟨b, o, e3, hr3⟩ := hr2 (by show 0 < (listOf C _).length; rw [hlen]; exact hpos)
    have hr3 : RowAt σ (fun n => w.cell? ⟨b, o + n, none⟩) C.k (listOf C (seen M (.ref i))).length (fun e => C.enc fun _ => (listOf C (seen M (.ref i))).getD e C.d) := hr3
    rw [e, e3] at e2
    injection e2 with e4 _ _
    injection e4 with e5
    injection e5 with e6 e7 _
    subst e6 e7
    rw [hlen] at hr3
    refine ⟨g, cap, cur, e, hg, h1, h2, h3, fun x hx => ⟨(hr3 x hx).1, fun j c hj => ?_⟩⟩
    obtain ⟨u, hu, hcr⟩ := (hr3 x hx).2 j c hj
    refine ⟨u, ?_, hcr⟩
    have hu : w.cell? ⟨g, 0 + (x * C.k + j), none⟩ = some u := hu
    rw [Nat.zero_add, cell_at hg] at hu
    exact hu
def spDelC : Spec := fun args M _ => match args with
  | [.one (.ref i), .one (.i .i64 a), .one (.i .i64 b)] => match M i with
    | some (.row .own t k len get) => ⟨isT (Nat.beq k C.k) ∧ In fun _ => okRow C (seen M (.ref i)) ∧ (listOf C (seen M (.ref i))).length ≤ 140737488355328 ∧ 0 ≤ a.val ∧ a.val < (listOf C (seen M (.ref i))).length ∧ b.val = a.val + 1, .one (.cut i (.sy (fun _ => (listOf C (seen M (.ref i))).length - 1) 0)), [], [(i, .row .own t C.k (.sy (fun _ => (delL (listOf C (seen M (.ref i))) C.d a.val.toNat).length) 0) fun e => C.enc fun _ => (delL (listOf C (seen M (.ref i))) C.d a.val.toNat).getD e C.d)], [i]⟩
    | _ => bad
  | _ => bad
theorem congrDelC : (spDelC C).Congr := by
  intro args M M' base hs h
  unfold spDelC at *
  split at hs
  · rename_i i a b
    simp only at h hs ⊢
    split at hs
    · rename_i hM
      simp only [hM] at h
      have e := h i (by simp)
      rw [e, hM]
      have : seen M' (.ref i) = seen M (.ref i) := by simp [seen, e, hM]
      simp only [this]
    · exact hs.elim
  · exact hs.elim
theorem okDelC {f : FuncId} (hen : Enters Tryz.prog f) (zc : List Value) (hz1 : zc.length = C.k) (hz2 : ∀ v ∈ zc, v.oneCell' = true) (hz3 : ∀ (σ : Ren) (j : Nat) (c : CV), (C.enc fun _ => C.d)[j]? = some c → ∃ v : Value, zc[j]? = some v ∧ CR σ c v)
    (hf : ∀ (blk cap i n : Nat) (w : World), (∀ t, t < n * C.k → ∃ u, w.cell? ⟨blk, 0 + t, none⟩ = some u ∧ u.oneCell' = true ∧ w.frozen? ⟨blk, 0 + t, none⟩ = false) → n ≤ cap → cap ≤ 9223372036854775807 → i + 1 ≤ n →
      ∀ news : List Value, news.length = (n - (i + 1)) * C.k → (∀ t u, news[t]? = some u → w.cell? ⟨blk, 0 + ((i + 1) * C.k + t), none⟩ = some u) →
      Calls Tryz.prog f #[.slice (some ⟨blk, 0, none⟩) n cap, .int .i64 i, .int .i64 ((i + 1 : Nat) : Int)] w fun e w' => e = .returned (.slice (some ⟨blk, 0, none⟩) (n - (i + 1 - i)) cap) ∧ w' = (w.drew.setCells blk (0 + i * C.k) news).setCells blk (0 + (i + (n - (i + 1))) * C.k) zc) : SpecOk F0 Tryz.prog f (spDelC C) := by
  refine ⟨congrDelC C, hen, fun n B O σ M w args vals base hS ha hs hnew hfree => ?_⟩
  unfold spDelC at hs hnew hfree ⊢
  split at hs
  · rename_i r a b
    split at hs
    · rename_i t k len get hM
      obtain ⟨hk, hok⟩ := hs
      obtain ⟨hok, hsz, ha0, ha1, hab⟩ := hok.ok
      obtain rfl := Nat.eq_of_beq_eq_true (isT_iff.1 hk)
      simp only [hM]
      match vals, ha with
      | [v, va, vb], ha =>
        have hi : σ r = some v := ha.1.2
        have hva : va = .int .i64 a.val := ha.2.1.2
        have hvb : vb = .int .i64 b.val := ha.2.2.1.2
        have hs : seen M (.ref r) = ⟨True, len, C.k, get, [r]⟩ := by simp [seen, hM]
        have hlen : (listOf C (seen M (.ref r))).length = len.val := by rw [listOf_len, hs]
        obtain ⟨g, cap, cur, rfl, hg, h1, h2, h3, hra⟩ := own_cells C hS hi hM hok (by omega)
        generalize hxs : listOf C (seen M (.ref r)) = xs at *
        obtain ⟨i, hi2⟩ : ∃ i : Nat, a.val = (i : Int) := ⟨a.val.toNat, by omega⟩
        have hin : i < xs.length := by omega
        have hcell : ∀ q, q < xs.length * C.k → ∃ u, cur[q]? = some u ∧ u.oneCell' = true := fun q hq => by
          obtain ⟨u, _, h5, _, h6⟩ := rowAt_cell C (xs := xs) (by rw [hlen]; exact hra) hq
          exact ⟨u, h5, h6.1⟩
        rw [hva, hvb, hab, hi2]
        refine callsIn_wide.2 ?_
        have hcalls := hf g cap i xs.length w (fun q hq => by
          obtain ⟨u, hu, h1⟩ := hcell q hq
          refine ⟨u, ?_, h1, ?_⟩
          · rw [Nat.zero_add, cell_at hg]; exact hu
          · simp [World.frozen?, hg]) (by rw [hlen]; exact h1) (by have : maxLen = 9223372036854775807 := rfl; omega) hin
          (cellsAt w g ((i + 1) * C.k) ((xs.length - (i + 1)) * C.k)) (cellsAt_len ..) (fun q u hq => by
            obtain ⟨h5, h6⟩ := cellsAt_get hq
            have e1 : (i + 1) * C.k + (xs.length - (i + 1)) * C.k = xs.length * C.k := by rw [← Nat.add_mul]; congr 1; omega
            obtain ⟨u', hu', _⟩ := hcell ((i + 1) * C.k + q) (by omega)
            rw [Nat.zero_add]
            have h7 : w.cell? ⟨g, (i + 1) * C.k + q, none⟩ = some u' := by rw [cell_at hg]; exact hu'
            rw [h7] at h6 ⊢
            exact congrArg some h6)
        rw [← hlen, show ((i : Int) + 1) = ((i + 1 : Nat) : Int) from (Int.natCast_succ i).symm]
        refine hcalls.mono fun e w' h => ?_
        obtain ⟨rfl, rfl⟩ := h
        generalize hnews : cellsAt w g ((i + 1) * C.k) ((xs.length - (i + 1)) * C.k) = news
        have hnl : news.length = (xs.length - (i + 1)) * C.k := by rw [← hnews, cellsAt_len]
        have hkp := C.kpos
        have e1 : (i + 1) * C.k + (xs.length - (i + 1)) * C.k = xs.length * C.k := by rw [← Nat.add_mul]; congr 1; omega
        have e2 : (i + (xs.length - (i + 1))) * C.k = i * C.k + (xs.length - (i + 1)) * C.k := Nat.add_mul ..
        have e3 : (i + 1) * C.k = i * C.k + C.k := by rw [Nat.add_mul, Nat.one_mul]
        have e4 : xs.length * C.k ≤ cap * C.k := Nat.mul_le_mul_right _ (by omega)
        have hgd : w.drew.heap[g]? = some (.cells cur t (0, 0)) := hg
        obtain ⟨cur1, hg1, hc1⟩ := heap_setCells news (0 + i * C.k) w.drew cur hgd
        obtain ⟨cur2, hg2, hc2⟩ := heap_setCells zc (0 + (i + (xs.length - (i + 1))) * C.k) _ cur1 hg1
        have some1 : ∀ q, q < cap * C.k → (w.drew.cell? ⟨g, q, none⟩).isSome = true := fun q hq => by
          rw [cell_at hgd]
          rw [← h3] at hq
          simp [hq]
        have c1 : ∀ q, cur1[q]? = (w.drew.setCells g (0 + i * C.k) news).cell? ⟨g, q, none⟩ := fun q => (cell_at hg1 q).symm
        have c2 : ∀ q, cur2[q]? = ((w.drew.setCells g (0 + i * C.k) news).setCells g (0 + (i + (xs.length - (i + 1))) * C.k) zc).cell? ⟨g, q, none⟩ := fun q => (cell_at hg2 q).symm
        -- what lies ahead, what was moved, what is cleared
        have lo : ∀ q, q < i * C.k → cur2[q]? = cur[q]? := fun q hq => by
          rw [c2, World.cell?_setCells_out g zc _ _ ⟨g, q, none⟩ (fun _ _ => .inl (by show q < _; omega)), World.cell?_setCells_out g news _ _ ⟨g, q, none⟩ (fun _ _ => .inl (by show q < _; omega)), cell_at hgd]
        have mid : ∀ q, i * C.k ≤ q → q < i * C.k + (xs.length - (i + 1)) * C.k → cur2[q]? = cur[q + C.k]? := fun q hq1 hq2 => by
          rw [c2, World.cell?_setCells_out g zc _ _ ⟨g, q, none⟩ (fun _ _ => .inl (by show q < _; omega))]
          obtain ⟨p, rfl⟩ : ∃ p, q = i * C.k + p := ⟨q - i * C.k, by omega⟩
          have hp : p < news.length := by omega
          have := World.cell?_setCells_in g news (0 + i * C.k) w.drew (fun j hj => some1 _ (by omega)) p hp
          rw [show i * C.k + p = 0 + i * C.k + p by omega, this]
          obtain ⟨u, hu, _⟩ := hcell ((i + 1) * C.k + p) (by omega)
          rw [show 0 + i * C.k + p + C.k = (i + 1) * C.k + p by omega, hu]
          have h5 : (cellsAt w g ((i + 1) * C.k) ((xs.length - (i + 1)) * C.k))[p]? = some news[p] := by rw [hnews]; exact List.getElem?_eq_getElem hp
          obtain ⟨_, h6⟩ := cellsAt_get h5
          rw [cell_at hg, hu] at h6
          exact congrArg some h6.symm
        have hi' : ∀ q, q < C.k → cur2[(i + (xs.length - (i + 1))) * C.k + q]? = zc[q]? := fun q hq => by
          have := World.cell?_setCells_in g zc (0 + (i + (xs.length - (i + 1))) * C.k) (w.drew.setCells g (0 + i * C.k) news) (fun j hj => by
            rw [cell_at hg1]
            have : 0 + (i + (xs.length - (i + 1))) * C.k + j < cur1.size := by rw [hc1, h3]; omega
            rw [Array.getElem?_eq_getElem this]
            rfl) q (by rw [hz1]; exact hq)
          rw [c2, show (i + (xs.length - (i + 1))) * C.k + q = 0 + (i + (xs.length - (i + 1))) * C.k + q by omega, this]
          rw [List.getElem?_eq_getElem (by rw [hz1]; exact hq)]
        have row : RowAt σ (fun n => cur2[n]?) C.k (delL xs C.d i).length fun e => C.enc fun _ => (delL xs C.d i).getD e C.d := fun e he => ⟨C.len _, fun j c hj => by
          rw [delL_len] at he
          have hjk : j < C.k := by
            have := (List.getElem?_eq_some_iff.1 hj).1
            rw [C.len] at this
            exact this
          have hj : (C.enc fun _ => (delL xs C.d i).getD e C.d)[j]? = some c := hj
          show ∃ v, cur2[e * C.k + j]? = some v ∧ CR σ c v
          rw [show (fun x : PUnit => (delL xs C.d i).getD e C.d) = fun _ => if e < i then xs.getD e C.d else if e + 1 < xs.length then xs.getD (e + 1) C.d else C.d from funext fun _ => delL_get he] at hj
          by_cases h5 : e < i
          · simp only [h5, if_true] at hj
            have h6 := cell_lt h5 hjk
            rw [lo _ h6]
            exact (hra e (by omega)).2 j c hj
          · simp only [h5, if_false] at hj
            by_cases h6 : e + 1 < xs.length
            · simp only [h6, if_true] at hj
              have h7 : i * C.k ≤ e * C.k := Nat.mul_le_mul_right _ (by omega)
              have h8 : e * C.k + j < (i + (xs.length - (i + 1))) * C.k := cell_lt (by omega) hjk
              rw [mid _ (by omega) (by omega), show e * C.k + j + C.k = (e + 1) * C.k + j by rw [Nat.add_mul]; omega]
              exact (hra (e + 1) (by omega)).2 j c hj
            · simp only [h6, if_false] at hj
              rw [show e = i + (xs.length - (i + 1)) by omega, hi' j hjk]
              exact hz3 σ j c hj⟩
        have hoth : ∀ q, q ≠ g → ((w.drew.setCells g (0 + i * C.k) news).setCells g (0 + (i + (xs.length - (i + 1))) * C.k) zc).heap[q]? = w.heap[q]? := fun q hq => by
          rw [heap_setCells_other hq, heap_setCells_other hq]
          rfl
        have hsize : ((w.drew.setCells g (0 + i * C.k) news).setCells g (0 + (i + (xs.length - (i + 1))) * C.k) zc).heap.size = w.heap.size := by
          rw [size_setCells, size_setCells]
          rfl
        obtain ⟨o1, o2, o3⟩ := os_setCells g zc (0 + (i + (xs.length - (i + 1))) * C.k) (w.drew.setCells g (0 + i * C.k) news)
        obtain ⟨o4, o5, o6⟩ := os_setCells g news (0 + i * C.k) w.drew
        refine ⟨σ, Ren.le.refl σ, fun j u hu => .inl hu, ⟨rfl, _, _, _, hi, ?_, ?_⟩, ?_, ⟨o1.trans o4, o2.trans o5, o3.trans o6, by rw [hsize]; exact Nat.le_refl _, fun q hq hO => ?_⟩⟩
        · show Value.slice _ (xs.length - (i + 1 - i)) cap = Value.slice _ (xs.length - 1) cap
          rw [show i + 1 - i = 1 by omega]
        · show xs.length - 1 ≤ len.val
          omega
        · rw [show ((i : Nat) : Int).toNat = i from Int.toNat_natCast i]
          refine hS.write hi hM rfl rfl hoth (by rw [hsize]; exact Nat.le_refl _) ⟨hkp, .inr ⟨g, cap, cur2, ?_, hg2, ?_, h2, by rw [hc2, hc1, h3], row⟩⟩
          · show Value.slice _ len.val cap = Value.slice _ (delL xs C.d i).length cap
            rw [delL_len, hlen]
          · show (delL xs C.d i).length ≤ cap
            rw [delL_len, hlen]
            exact h1
        · have hb := hS.own r _ _ g hi hM rfl rfl
          exact hoth q fun e => by
            subst e
            rcases hb with hb | hb
            · omega
            · exact hO hb
    · exact hs.elim
  · exact hs.elim
end
end Go.Proofs.YthgllnnlngihoaaGreat.Sx
end
section
set_option linter.unusedVariables false
set_option linter.unusedSimpArgs false
set_option maxRecDepth 100000
namespace Go.Proofs.YthgllnnlngihoaaGreat.Sx
open Go.RowKit Go.Sort

def renDel (f sl el : Nat) : Go.Shelf.Ren := ⟨fun | 45 => f | n => n, fun | 22 => sl | 23 => el | n => n, fun | n => n⟩
theorem laysD92 : Go.Proofs.SlLaysE0.n45 Tryz.prog (renDel 92 24 64) := {
  mixed := by kernel_rfl
  f45 := ⟨Tryz.f92.name, by decide, Tryz.func92.trans (congrArg some (by kernel_rfl))⟩
  t0 := Tryz.underlying0
  a0 := Tryz.isAgg0
  z0 := Tryz.sizeOf0
  v0 := Tryz.zeroValue0
  t3 := Tryz.underlying3
  a3 := Tryz.isAgg3
  z3 := Tryz.sizeOf3
  v3 := Tryz.zeroValue3
  t4 := Tryz.underlying4
  a4 := Tryz.isAgg4
  z4 := Tryz.sizeOf4
  v4 := Tryz.zeroValue4
  t22 := Tryz.underlying24
  a22 := Tryz.isAgg24
  z22 := Tryz.sizeOf24
  v22 := Tryz.zeroValue24 }
theorem enters92 : Enters Tryz.prog 92 := ⟨Tryz.f92, fbody Tryz.f92, by kernel_rfl, rfl, rfl⟩
theorem laysD95 : Go.Proofs.SlLaysE0.n45 Tryz.prog (renDel 95 25 121) := {
  mixed := by kernel_rfl
  f45 := ⟨Tryz.f95.name, by decide, Tryz.func95.trans (congrArg some (by kernel_rfl))⟩
  t0 := Tryz.underlying0
  a0 := Tryz.isAgg0
  z0 := Tryz.sizeOf0
  v0 := Tryz.zeroValue0
  t3 := Tryz.underlying3
  a3 := Tryz.isAgg3
  z3 := Tryz.sizeOf3
  v3 := Tryz.zeroValue3
  t4 := Tryz.underlying4
  a4 := Tryz.isAgg4
  z4 := Tryz.sizeOf4
  v4 := Tryz.zeroValue4
  t22 := Tryz.underlying25
  a22 := Tryz.isAgg25
  z22 := Tryz.sizeOf25
  v22 := Tryz.zeroValue25 }
theorem enters95 : Enters Tryz.prog 95 := ⟨Tryz.f95, fbody Tryz.f95, by kernel_rfl, rfl, rfl⟩
theorem del_of (f sl el k : Nat) (L : Go.Proofs.SlLaysE0.n45 Tryz.prog (renDel f sl el)) (h : (Tryz.prog.info? el).map (fun i => i.size) = some k) (z23 : ∀ w, (Go.sizeOf el).run Tryz.prog w = .ok k w) (z : Value) (v23 : ∀ w, (zeroValue el).run Tryz.prog w = .ok z w) (zc : List Value) (hzc : (Builtin.zeroCells z.cells 1).toList = zc) (hz1 : zc.length = k) (hz2 : ∀ v ∈ zc, v.oneCell' = true)
    (blk cap i n : Nat) (w : World) (hc : ∀ t, t < n * k → ∃ u, w.cell? ⟨blk, 0 + t, none⟩ = some u ∧ u.oneCell' = true ∧ w.frozen? ⟨blk, 0 + t, none⟩ = false) (h1 : n ≤ cap) (h2 : cap ≤ 9223372036854775807) (h3 : i + 1 ≤ n)
    (news : List Value) (hn : news.length = (n - (i + 1)) * k) (hn2 : ∀ t u, news[t]? = some u → w.cell? ⟨blk, 0 + ((i + 1) * k + t), none⟩ = some u) :
    Calls Tryz.prog f #[.slice (some ⟨blk, 0, none⟩) n cap, .int .i64 i, .int .i64 ((i + 1 : Nat) : Int)] w fun e w' => e = .returned (.slice (some ⟨blk, 0, none⟩) (n - (i + 1 - i)) cap) ∧ w' = (w.drew.setCells blk (0 + i * k) news).setCells blk (0 + (i + (n - (i + 1))) * k) zc := by
  cases hi : Tryz.prog.info? el with
  | none => rw [hi] at h; cases h
  | some i0 =>
    rw [hi] at h
    simp only [Option.map_some, Option.some.injEq] at h
    exact delete_run L k z23 z v23 i0 hi h blk 0 cap i (i + 1) n w hc h1 h2 (Nat.lt_succ_self i) h3 news zc hn hn2 (by rw [show i + 1 - i = 1 by omega]; exact hzc) (by rw [hz1, show i + 1 - i = 1 by omega, Nat.one_mul]) hz2
def zc92 : List Value := [.int .i64 0, .int .i64 0, .int .i64 0, .int .i64 0, .int .i64 0, .int .i64 0, .string ⟨#[]⟩, .int .i64 0, .int .i64 0]
def spDelSight : Spec := fun args M _ => match args with
  | [.one (.ref i), .one (.i .i64 a), .one (.i .i64 b)] => match M i with
    | some (.row .own t k len get) => ⟨(isT (Nat.beq k 9) ∧ isT (Nat.beq t 64)) ∧ In fun _ => okSights M (.ref i) ∧ (sights M (.ref i)).length ≤ 140737488355328 ∧ 0 ≤ a.val ∧ a.val < (sights M (.ref i)).length ∧ b.val = a.val + 1, .one (.cut i (.sy (fun _ => (sights M (.ref i)).length - 1) 0)), [], [(i, sightsRowT fun _ => delL (sights M (.ref i)) sightD a.val.toNat)], [i]⟩
    | _ => bad
  | _ => bad
theorem okDelSight : SpecOk F0 Tryz.prog 92 spDelSight := by
  have h : SpecOk F0 Tryz.prog 92 (spDelC sightCod) := okDelC sightCod enters92 zc92 rfl (by decide) (fun σ j c hj => by
    match j, hj with
    | 0, hj => cases hj; exact ⟨_, rfl, rfl, rfl⟩
    | 1, hj => cases hj; exact ⟨_, rfl, rfl, rfl⟩
    | 2, hj => cases hj; exact ⟨_, rfl, rfl, rfl⟩
    | 3, hj => cases hj; exact ⟨_, rfl, rfl, rfl⟩
    | 4, hj => cases hj; exact ⟨_, rfl, rfl, rfl⟩
    | 5, hj => cases hj; exact ⟨_, rfl, rfl, rfl⟩
    | 6, hj => cases hj; exact ⟨_, rfl, rfl, rfl⟩
    | 7, hj => cases hj; exact ⟨_, rfl, rfl, rfl⟩
    | 8, hj => cases hj; exact ⟨_, rfl, rfl, rfl⟩
    | q + 9, hj => exact absurd (List.getElem?_eq_some_iff.1 hj).1 (by simp [sightCod, encSight])) (del_of 92 24 64 9 laysD92 (by kernel_rfl) Tryz.sizeOf64 _ Tryz.zeroValue64 zc92 (by kernel_rfl) rfl (by decide))
  exact h.narrow (fun args M M' base hs h => by
    unfold spDelSight at *
    split at hs
    · rename_i i a b
      simp only at h hs ⊢
      split at hs
      · rename_i hM
        simp only [hM] at h
        have e := h i (by simp)
        rw [e, hM]
        have : seen M' (.ref i) = seen M (.ref i) := by simp [seen, e, hM]
        simp only [sights, okSights, this]
      · exact hs.elim
    · exact hs.elim) fun args M base hs => by
    unfold spDelSight at hs ⊢
    split at hs
    · rename_i i a b
      try simp only at hs ⊢
      split at hs
      · rename_i t k len get hM
        obtain ⟨⟨h1, h2⟩, h3⟩ := hs
        obtain rfl := Nat.eq_of_beq_eq_true (isT_iff.1 h1)
        obtain rfl := Nat.eq_of_beq_eq_true (isT_iff.1 h2)
        unfold spDelC
        simp only [hM]
        exact ⟨⟨isT_iff.2 rfl, h3⟩, by first | rfl | trivial, by first | rfl | trivial, by first | rfl | trivial⟩
      · exact hs.elim
    · exact hs.elim
def zc95 : List Value := [.int .i64 0, .int .i64 0, .int .i64 0, .int .i64 0]
def spDelNote : Spec := fun args M _ => match args with
  | [.one (.ref i), .one (.i .i64 a), .one (.i .i64 b)] => match M i with
    | some (.row .own t k len get) => ⟨(isT (Nat.beq k 4) ∧ isT (Nat.beq t 121)) ∧ In fun _ => okNotes M (.ref i) ∧ (notes M (.ref i)).length ≤ 140737488355328 ∧ 0 ≤ a.val ∧ a.val < (notes M (.ref i)).length ∧ b.val = a.val + 1, .one (.cut i (.sy (fun _ => (notes M (.ref i)).length - 1) 0)), [], [(i, notesRowT fun _ => delL (notes M (.ref i)) noteD a.val.toNat)], [i]⟩
    | _ => bad
  | _ => bad
theorem okDelNote : SpecOk F0 Tryz.prog 95 spDelNote := by
  have h : SpecOk F0 Tryz.prog 95 (spDelC noteCod) := okDelC noteCod enters95 zc95 rfl (by decide) (fun σ j c hj => by
    match j, hj with
    | 0, hj => cases hj; exact ⟨_, rfl, rfl, rfl⟩
    | 1, hj => cases hj; exact ⟨_, rfl, rfl, rfl⟩
    | 2, hj => cases hj; exact ⟨_, rfl, rfl, rfl⟩
    | 3, hj => cases hj; exact ⟨_, rfl, rfl, rfl⟩
    | q + 4, hj => exact absurd (List.getElem?_eq_some_iff.1 hj).1 (by simp [noteCod, encNote])) (del_of 95 25 121 4 laysD95 (by kernel_rfl) Tryz.sizeOf121 _ Tryz.zeroValue121 zc95 (by kernel_rfl) rfl (by decide))
  exact h.narrow (fun args M M' base hs h => by
    unfold spDelNote at *
    split at hs
    · rename_i i a b
      simp only at h hs ⊢
      split at hs
      · rename_i hM
        simp only [hM] at h
        have e := h i (by simp)
        rw [e, hM]
        have : seen M' (.ref i) = seen M (.ref i) := by simp [seen, e, hM]
        simp only [notes, okNotes, this]
      · exact hs.elim
    · exact hs.elim) fun args M base hs => by
    unfold spDelNote at hs ⊢
    split at hs
    · rename_i i a b
      try simp only at hs ⊢
      split at hs
      · rename_i t k len get hM
        obtain ⟨⟨h1, h2⟩, h3⟩ := hs
        obtain rfl := Nat.eq_of_beq_eq_true (isT_iff.1 h1)
        obtain rfl := Nat.eq_of_beq_eq_true (isT_iff.1 h2)
        unfold spDelC
        simp only [hM]
        exact ⟨⟨isT_iff.2 rfl, h3⟩, by first | rfl | trivial, by first | rfl | trivial, by first | rfl | trivial⟩
      · exact hs.elim
    · exact hs.elim

section
variable (st pl sk : Int) (ss : List SightD) (ns : List NoteD) (than : Int)
def fewerB : Bool := someK st pl sk ss ns (3 ^ (ss.length - 1)) && (decide (than < 0) || decide ((changesN (bestL st pl sk ss ns (3 ^ (ss.length - 1))) : Int) < than))
end
def spFewer : Spec := fun args M _ => match args with
  | [.agg [.i .i64 st, .i .i64 pl, .i .i64 sk, c, d], .one (.i .i64 than)] => ⟨In fun _ => okLife M c d ∧ RunOk st.val pl.val sk.val (sights M c) (notes M d), cbool (.sy fun _ => fewerB st.val pl.val sk.val (sights M c) (notes M d) than.val), [], [], (seen M c).reads ++ (seen M d).reads⟩
  | _ => bad
theorem congrFewer : spFewer.Congr := by
  intro args M M' base hs h
  unfold spFewer at *
  split at hs
  · simp only [okLife, okSights, okNotes, sights, notes] at h ⊢
    rw [seen_congr (M := M) (M' := M') (fun i hi => h i (List.mem_append_left _ hi)), seen_congr (M := M) (M' := M') (fun i hi => h i (List.mem_append_right _ hi))]
  · exact hs.elim
theorem okFewer : SpecOk F0 Tryz.prog 94 spFewer := by
  refine spec_val (e := en [(90, spChanges), (91, spLeast91)]) (en_ok ⟨okChanges, okLeast91, trivial⟩) rfl (fn := Tryz.f94) (c := fbody Tryz.f94) (by kernel_rfl) rfl rfl (by kernel_rfl) congrFewer fun args M base hs => ?_
  unfold spFewer at hs ⊢
  split at hs
  · rename_i st pl sk c d than
    refine ⟨[.agg [.i .i64 (.sy fun _ => st.val), .i .i64 (.sy fun _ => pl.val), .i .i64 (.sy fun _ => sk.val), .ref 0, .ref 1], .one (.i .i64 (.sy fun _ => than.val))], [sightRow .ro (sights M c), noteRow .ro (notes M d)], Nat.le_of_ble_eq_true rfl, ⟨rfl, trivial⟩, .val rfl (.val rfl (.val rfl (.row (sight_from hs.ok.1.1) (.row (note_from hs.ok.1.2.1) (.val rfl .nil))))), rfl, rfl, rfl, fun B => ?_⟩
    have hR := hs.ok.2
    clear hs
    show vc _ _ _ _ fun x s => _ ∧ _ ∧ IvLe _ _ (cbool (.sy fun _ => fewerB st.val pl.val sk.val (sights M c) (notes M d) than.val))
    revert hR
    generalize sights M c = ss
    generalize notes M d = ns
    generalize st.val = st
    generalize pl.val = pl
    generalize sk.val = sk
    generalize than.val = than
    intro hR
    have hbl := bestL_len (st := st) (pl := pl) (sk := sk) (ss := ss) (ns := ns) (3 ^ (ss.length - 1))
    have hn9 := hR.few
    cbv
    simp only [implies_true, and_true, true_and, IX.v_lit, IX.v_nat, IX.v_sy, BX.v_lit, BX.v_sy, NX.v_lit, NX.v_sy, addN, in_true, eq_self, Nat.succ_eq_add_one, intD_eq, encInt_le, encText_le, encSpan_le, encPair_le, encBox_le, encNote_le, encSight_le, cell_i_le, Nat.add_zero, Int.toNat_natCast, Nat.lt_irrefl, if_false, and_self, ncast, imp_self, in_self, in_self2, in_and, Int.cast_ofNat_Int, in_and2, noT, noF]
    refine ⟨⟨run_side rfl rfl hR⟩, ?_⟩
    simp only [in_true, eq_self, and_true, true_and, ints, texts, spans, pairs, boxs, notes, sights, seen, lget, reduceIte, Nat.reduceEqDiff, reduceCtorEq, Nat.succ_ne_self, Nat.zero_ne_one, Nat.one_ne_zero, int_row0, int_row, text_row, span_row, pair_row, box_row, note_row, sight_row]
    exact ⟨fun _ => ⟨(ints_at (bestL st pl sk ss ns (3 ^ (ss.length - 1))) _ _ rfl).1, by omega⟩, fun hs => ⟨fun h2 => by rw [hs, h2]; rfl⟩, ⟨rfl⟩⟩
  · exact hs.elim
end Go.Proofs.YthgllnnlngihoaaGreat.Sx
end
