/- Ranging over a map whose keys are whole numbers, also while its entries are given other values. No program is named. -/
import Derived.Test.YtnpfoicniodobaaGreatMp
import Derived.Maps.RangeWalk
namespace Go.Proofs.YtnpfoicniodobaaGreat
open Go.RowKit Go.ChangeMaps

/-- Iterator r goes over map b, whose entries are l; the keys that are still to come are left. -/
def RangI (w : World) (b r : Nat) (l : List (Int × Value)) (left : List Int) : Prop :=
  ∃ es clock since seen c0, w.heap[b]? = some (.map es clock) ∧ es.toList.map (fun e => (e.key, e.val)) = l.map (fun p => (Value.int .i64 p.1, p.2)) ∧ (es.toList.map (·.born)).Nodup ∧ (∀ x ∈ es.toList, x.born < clock) ∧
    w.heap[r]? = some (.mapIter (some b) since seen c0) ∧ (∀ x ∈ es.toList, x.born < since) ∧ since ≤ c0 ∧ since ≤ clock ∧ left.Nodup ∧ (∀ k ∈ left, k ∈ l.map (·.1)) ∧
    ∀ (i : Nat) (e : MapEntry) (p : Int × Value), es.toList[i]? = some e → l[i]? = some p → (seen.contains e.born = false ↔ p.1 ∈ left)

theorem set_same {w : World} {r : Nat} {o : Obj} (h : w.heap[r]? = some o) (o' : Obj) : (setBlock w r o').heap[r]? = some o' := by
  have hlt := (Array.getElem?_eq_some_iff.1 h).1
  simp [setBlock, hlt]
theorem set_other {w : World} {r : Nat} (o' : Obj) {k : Nat} (hk : k ≠ r) : (setBlock w r o').heap[k]? = w.heap[k]? := by
  have : r ≠ k := fun e => hk e.symm
  simp [setBlock, this]
theorem RangI.map {w : World} {b r : Nat} {l : List (Int × Value)} {left : List Int} (h : RangI w b r l left) : MapI w b l := by
  obtain ⟨es, clock, since, seen, c0, h1, h2, h3, h4, _⟩ := h
  exact ⟨es, clock, h1, h2, h3, h4⟩
theorem RangI.lt {w : World} {b r : Nat} {l : List (Int × Value)} {left : List Int} (h : RangI w b r l left) : r < w.heap.size := by
  obtain ⟨es, clock, since, seen, c0, h1, h2, h3, h4, h5, _⟩ := h
  exact (Array.getElem?_eq_some_iff.1 h5).1
theorem RangI.ne {w : World} {b r : Nat} {l : List (Int × Value)} {left : List Int} (h : RangI w b r l left) : r ≠ b := by
  obtain ⟨es, clock, since, seen, c0, h1, h2, h3, h4, h5, _⟩ := h
  intro e
  subst e
  rw [h1] at h5
  cases h5
theorem RangI.kept {w w' : World} {b r : Nat} {l : List (Int × Value)} {left : List Int} (h : RangI w b r l left) {row : Option Nat} (hg : w.grownBy w' row) (hb : some b ≠ row) (hr : some r ≠ row) : RangI w' b r l left := by
  have h0 := h.map.lt
  have h0' := h.lt
  obtain ⟨es, clock, since, seen, c0, h1, h2, h3, h4, h5, h6⟩ := h
  exact ⟨es, clock, since, seen, c0, (hg.block b h0 hb).trans h1, h2, h3, h4, (hg.block r h0' hr).trans h5, h6⟩
theorem RangI.below {w w' : World} {b r : Nat} {l : List (Int × Value)} {left : List Int} (h : RangI w b r l left) (hb : Below w.heap.size w w') : RangI w' b r l left :=
  h.kept (row := none) ⟨hb.os, hb.tape, hb.output, hb.size, fun i hi _ => hb.block i hi⟩ (by simp) (by simp)

section
variable {P : Program} {ops : Array Oper} {rest : List Oper} {o : Oper} {a : Act} {Q : Exit → Act → World → Prop} {w : World} {kt e t : TypeId} {b r : Nat} {l : List (Int × Value)} {left : List Int}

theorem MapI.range (h : MapI w b l) (hn : (l.map (·.1)).Nodup) (ht : P.underlying t = some (.map kt e)) :
    ∃ w', (Instr.range t (.map (some b))).run P w = .ok (.pointer (some ⟨w.heap.size, 0, none⟩)) w' ∧ RangI w' b w.heap.size l (l.map (·.1)) ∧ w.grownBy w' none ∧ w'.heap.size = w.heap.size + 1 := by
  have hlt := h.lt
  obtain ⟨es, clock, hb, he, hbn, hbc⟩ := h
  refine ⟨w.alloc (.mapIter (some b) clock #[] clock), ?_, ⟨es, clock, clock, #[], clock, by rw [← hb]; exact heap_alloc_old w _ hlt, he, hbn, hbc, heap_alloc_new w _, hbc, Nat.le_refl _, Nat.le_refl _, hn, fun k hk => hk, fun i e p _ hp => ?_⟩, World.grownBy_alloc w _ none, by simp⟩
  · simp [Instr.range, run_underlying ht, MapKept.run_getObj_map hb, Result.andThen]
  · simp only [Array.contains_empty, true_iff]
    exact List.mem_map.2 ⟨p, List.mem_of_getElem? hp, rfl⟩

theorem RangI.next (h : RangI w b r l left) (hn : (l.map (·.1)).Nodup) (ty : TypeId) :
    (left = [] ∧ (Instr.next (.pointer (some ⟨r, 0, none⟩)) false ty).run P w = .ok (.tuple #[.bool false]) w) ∨
    ∃ x v w', x ∈ left ∧ lk l x = some v ∧ (Instr.next (.pointer (some ⟨r, 0, none⟩)) false ty).run P w = .ok (.tuple #[.bool true, .int .i64 x, v]) w' ∧ RangI w' b r l (left.erase x) ∧ w.grownBy w' (some r) ∧ w'.heap.size = w.heap.size ∧
      (Instr.entry (.pointer (some ⟨r, 0, none⟩))).run P w' = .ok (.tuple #[.int .i64 x, v]) w' := by
  have hne := h.ne
  have hblt := h.map.lt
  obtain ⟨es, clock, since, seen, c0, h1, h2, h3, h4, h5, h6, h7, h8, h9, h10, h11⟩ := h
  rcases run_next_at (P := P) w ty r b since c0 seen es clock h5 h1 h6 h7 with ⟨hs, hrun⟩ | ⟨e0, hm, w1, hw1, hrun⟩
  · refine .inl ⟨?_, hrun⟩
    rw [List.eq_nil_iff_forall_not_mem]
    intro k hk
    obtain ⟨p, hp, rfl⟩ := List.mem_map.1 (h10 k hk)
    obtain ⟨i, hi⟩ := List.mem_iff_getElem?.1 hp
    have hlen : es.toList.length = l.length := by have := congrArg List.length h2; simpa using this
    have hil : i < es.toList.length := by rw [hlen]; exact (List.getElem?_eq_some_iff.1 hi).1
    have he := List.getElem?_eq_getElem hil
    have hc := (h11 i _ p he hi).2 hk
    have : es.toList[i] ∈ (leftOf es seen).toList := by
      unfold leftOf
      simp only [Array.toList_filter, List.mem_filter]
      exact ⟨List.getElem_mem _, by rw [hc]; rfl⟩
    have h0 : (leftOf es seen).toList.length = 0 := by simpa using hs
    rw [List.eq_nil_of_length_eq_zero h0] at this
    cases this
  · right
    unfold leftOf at hm
    simp only [Array.toList_filter, List.mem_filter] at hm
    obtain ⟨hme, hse⟩ := hm
    have hse' : seen.contains e0.born = false := by simpa using hse
    obtain ⟨i, hi⟩ := List.mem_iff_getElem?.1 hme
    have hkv := congrArg (fun x => x[i]?) h2
    simp only [List.getElem?_map, hi, Option.map_some] at hkv
    cases hli : l[i]? with
    | none => rw [hli] at hkv; simp at hkv
    | some p =>
      rw [hli] at hkv
      simp only [Option.map_some, Option.some.injEq, Prod.mk.injEq] at hkv
      obtain ⟨hk, hv⟩ := hkv
      have hleft := (h11 i e0 p hi hli).1 hse'
      have hil : i < l.length := (List.getElem?_eq_some_iff.1 hli).1
      have hlk : lk l p.1 = some p.2 := by
        unfold lk
        have : l.find? (fun q => q.1 == p.1) = some p := by
          rw [List.find?_eq_some_iff_getElem]
          refine ⟨by simp, i, hil, by rw [List.getElem?_eq_getElem hil] at hli; exact Option.some.inj hli, fun j hj => ?_⟩
          have hjl : j < l.length := by omega
          simp only [Bool.not_eq_true', beq_eq_false_iff_ne, ne_eq]
          intro e
          have e1 : (l.map (·.1))[j]? = some p.1 := by rw [List.getElem?_map, List.getElem?_eq_getElem hjl]; simp [e]
          have e2 : (l.map (·.1))[i]? = some p.1 := by rw [List.getElem?_map, hli]; rfl
          have := (List.getElem?_inj (by simpa using hjl) hn).1 (e1.trans e2.symm)
          omega
        rw [this]; rfl
      have hr1 : w1.heap[r]? = some (.mapIter (some b) since seen c0) := by rcases hw1 with rfl | rfl <;> exact h5
      have hb1 : w1.heap[b]? = some (.map es clock) := by rcases hw1 with rfl | rfl <;> exact h1
      have hsz1 : w1.heap.size = w.heap.size := by rcases hw1 with rfl | rfl <;> rfl
      have hblk : ∀ k, k ≠ r → (setBlock w1 r (.mapIter (some b) since (seen.push e0.born) clock)).heap[k]? = w.heap[k]? := by
        intro k hk
        rw [set_other _ hk]
        rcases hw1 with rfl | rfl <;> rfl
      have hb2 : (setBlock w1 r (.mapIter (some b) since (seen.push e0.born) clock)).heap[b]? = some (.map es clock) := (hblk b (fun e => hne e.symm)).trans h1
      have hr2 : (setBlock w1 r (.mapIter (some b) since (seen.push e0.born) clock)).heap[r]? = some (.mapIter (some b) since (seen.push e0.born) clock) := set_same hr1 _
      have hsz2 : (setBlock w1 r (.mapIter (some b) since (seen.push e0.born) clock)).heap.size = w.heap.size := by simp [setBlock, hsz1]
      refine ⟨p.1, p.2, _, hleft, hlk, by rw [← hk, ← hv]; exact hrun, ⟨es, clock, since, seen.push e0.born, clock, hb2, h2, h3, h4, hr2, h6, h8, h8, h9.erase _, fun k hk' => h10 k (List.mem_of_mem_erase hk'), fun j f q hj hq => ?_⟩, ⟨?_, ?_, ?_, by omega, fun k _ hk' => hblk k (fun e => hk' (by rw [e]))⟩, hsz2, ?_⟩
      · rw [h9.mem_erase_iff, ← h11 j f q hj hq]
        have hjn : (f.born = e0.born) ↔ q.1 = p.1 := by
          constructor
          · intro e
            have e1 : (es.toList.map (·.born))[j]? = some e0.born := by rw [List.getElem?_map, hj]; simp [e]
            have e2 : (es.toList.map (·.born))[i]? = some e0.born := by rw [List.getElem?_map, hi]; rfl
            have hjl : j < es.toList.length := (List.getElem?_eq_some_iff.1 hj).1
            have := (List.getElem?_inj (by simpa using hjl) h3).1 (e1.trans e2.symm)
            subst this
            rw [hli] at hq
            cases hq; rfl
          · intro e
            have e1 : (l.map (·.1))[j]? = some p.1 := by rw [List.getElem?_map, hq]; simp [e]
            have e2 : (l.map (·.1))[i]? = some p.1 := by rw [List.getElem?_map, hli]; rfl
            have hjl : j < l.length := (List.getElem?_eq_some_iff.1 hq).1
            have := (List.getElem?_inj (by simpa using hjl) hn).1 (e1.trans e2.symm)
            subst this
            rw [hi] at hj
            cases hj; rfl
        by_cases hq' : q.1 = p.1
        · have hf := hjn.2 hq'
          simp [hq', hf]
        · have hf : ¬ f.born = e0.born := fun e => hq' (hjn.1 e)
          have hf' : ¬ e0.born = f.born := fun e => hf e.symm
          simp [hq', hf]
      · rcases hw1 with rfl | rfl <;> rfl
      · rcases hw1 with rfl | rfl <;> rfl
      · rcases hw1 with rfl | rfl <;> rfl
      · rw [← hk, ← hv]
        exact run_entry_at _ r b since seen es clock e0 hr2 hb2 hme h3

theorem lk_key {k : Int} (hn : (l.map (·.1)).Nodup) {j : Nat} {v : Value} (h : l[j]? = some (k, v)) : ∀ i p, l[i]? = some p → p.1 = k → i = j := by
  intro i p hi e
  have e1 : (l.map (·.1))[i]? = some k := by rw [List.getElem?_map, hi]; simp [e]
  have e2 : (l.map (·.1))[j]? = some k := by rw [List.getElem?_map, h]; rfl
  have hil : i < l.length := (List.getElem?_eq_some_iff.1 hi).1
  exact (List.getElem?_inj (by simpa using hil) hn).1 (e1.trans e2.symm)

/-- An entry that is there has another value while the map is being ranged over. -/
theorem RangI.put (h : RangI w b r l left) (hn : (l.map (·.1)).Nodup) (ht : P.underlying t = some (.map kt e)) (hk : P.underlying kt = some (.int .i64)) (k : Int) (v v0 : Value) (h0 : lk l k = some v0) :
    ∃ w', (Instr.mapUpdate t (.map (some b)) (.int .i64 k) v).run P w = .ok () w' ∧ RangI w' b r (up l k v) left ∧ w.grownBy w' (some b) ∧ w'.heap.size = w.heap.size := by
  have hne := h.ne
  obtain ⟨es, clock, since, seen, c0, hb, he, hbn, hbc, h5, h6, h7, h8, h9, h10, h11⟩ := h
  have hlt := (Array.getElem?_eq_some_iff.1 hb).1
  rcases findNow_int k es.toList l 0 he with ⟨h1, h2⟩ | ⟨j, v1, e0, h1, h2, h3, h4, _, hfn⟩
  · rw [h1] at h0; cases h0
  · have hj : es[j]? = some e0 := by simpa using h2
    have hbor : (es.modify j fun e => { e with key := .int .i64 k, val := v }).toList.map (·.born) = es.toList.map (·.born) := by
      rw [Array.toList_modify, map_modify_at]
      apply List.ext_getElem?
      intro i
      simp only [List.getElem?_mapIdx]
      cases hi : (es.toList.map (·.born))[i]? with
      | none => simp
      | some y =>
        simp only [Option.map_some]
        by_cases hij : i = j
        · subst hij
          rw [if_pos rfl, h2]
          rw [List.getElem?_map, h2] at hi
          simp at hi
          simp [hi]
        · rw [if_neg hij]
    have hall : ∀ B, (∀ x ∈ es.toList, x.born < B) → ∀ x ∈ (es.modify j fun e => { e with key := .int .i64 k, val := v }).toList, x.born < B := by
      intro B hB x hx
      have hm : x.born ∈ (es.modify j fun e => { e with key := .int .i64 k, val := v }).toList.map (·.born) := List.mem_map.2 ⟨x, hx, rfl⟩
      rw [hbor] at hm
      obtain ⟨y, hy, e⟩ := List.mem_map.1 hm
      rw [← e]; exact hB y hy
    have hup : (up l k v).map (·.1) = l.map (·.1) := by
      rw [up, if_pos (lk_some h1), List.map_map]
      apply List.map_congr_left
      intro p _
      simp only [Function.comp]
      split <;> rfl
    have hset : World.grownBy w { w with heap := w.heap.setIfInBounds b (.map (es.modify j fun e => { e with key := .int .i64 k, val := v }) clock) } (some b) :=
      ⟨rfl, rfl, rfl, by simp, fun i hi hne => by
        have : b ≠ i := fun e => hne (by rw [e])
        simp [this]⟩
    refine ⟨{ w with heap := w.heap.setIfInBounds b (.map (es.modify j fun e => { e with key := .int .i64 k, val := v }) clock) }, ?_, ⟨es.modify j fun e => { e with key := .int .i64 k, val := v }, clock, since, seen, c0, by simp [hlt], ?_, by rw [hbor]; exact hbn, hall _ hbc, ?_, hall _ h6, h7, h8, h9, by rw [hup]; exact h10, ?_⟩, hset, by simp⟩
    · simp [Instr.mapUpdate, run_underlying ht, MapKept.run_getObj_map hb, checkKey_int hk, Instr.findKey, run_underlying hk, hfn, Result.andThen, setObj, Sem.run, hb, hj, h3, Instr.keyThatStays, Instr.sameBits]
    · rw [up, if_pos (lk_some h1), Array.toList_modify, map_modify_at, he, h2]
      apply List.ext_getElem?
      intro i
      simp only [List.getElem?_mapIdx, List.getElem?_map]
      cases hi : l[i]? with
      | none => simp
      | some p =>
        simp only [Option.map_some]
        by_cases hij : i = j
        · subst hij
          rw [h4] at hi
          cases hi
          simp
        · rw [if_neg hij]
          have hpk : ¬ p.1 = k := fun e => hij (lk_key hn h4 i p hi e)
          simp [hpk]
    · have hbr : b ≠ r := fun e => hne e.symm
      simp [hbr, h5]
    · intro i f q hf hq
      have e1 : (es.toList.map (·.born))[i]? = some f.born := by rw [← hbor, List.getElem?_map, hf]; rfl
      rw [List.getElem?_map] at e1
      cases hi : es.toList[i]? with
      | none => rw [hi] at e1; simp at e1
      | some y =>
        rw [hi] at e1
        simp at e1
        have e2 : (l.map (·.1))[i]? = some q.1 := by rw [← hup, List.getElem?_map, hq]; rfl
        rw [List.getElem?_map] at e2
        cases hl : l[i]? with
        | none => rw [hl] at e2; simp at e2
        | some p =>
          rw [hl] at e2
          simp at e2
          rw [← e1, ← e2]
          exact h11 i y p hi hl

/-- 'range m', for the walk. -/
theorem wp_range (hg : o.guard = none) (m : Operand) (t : TypeId) (hop : o.op = Op.range t m) (kt e : TypeId) (ht : P.underlying t = some (.map kt e)) (b : Nat) (l : List (Int × Value)) (hm : a.eval m = .map (some b)) (h : MapI w b l) (hn : (l.map (·.1)).Nodup)
    (hK : ∀ w', RangI w' b w.heap.size l (l.map (·.1)) → w.grownBy w' none → w'.heap.size = w.heap.size + 1 → wpList P ops Q rest (a.put o.dst (.pointer (some ⟨w.heap.size, 0, none⟩))) w') :
    wpList P ops Q (o :: rest) a w := by
  refine wpList_plain hg fun K' hK' => ?_
  obtain ⟨w', hrun, r1, r2, r3⟩ := h.range hn ht
  unfold Oper.wp
  simp [execOp, hop, hm, hrun, Result.andThen]
  exact hK' _ _ (hK w' r1 r2 r3)

/-- The step, for the walk. -/
theorem wp_next (hg : o.guard = none) (it : Operand) (hop : o.op = Op.next it false) (b r : Nat) (l : List (Int × Value)) (left : List Int) (hit : a.eval it = .pointer (some ⟨r, 0, none⟩)) (h : RangI w b r l left) (hn : (l.map (·.1)).Nodup)
    (hDone : left = [] → wpList P ops Q rest (a.put o.dst (.tuple #[.bool false])) w)
    (hMore : ∀ (x : Int) (v : Value) (w' : World), x ∈ left → lk l x = some v → RangI w' b r l (left.erase x) → w.grownBy w' (some r) → w'.heap.size = w.heap.size → (Instr.entry (.pointer (some ⟨r, 0, none⟩))).run P w' = .ok (.tuple #[.int .i64 x, v]) w' → wpList P ops Q rest (a.put o.dst (.tuple #[.bool true, .int .i64 x, v])) w') :
    wpList P ops Q (o :: rest) a w := by
  refine wpList_plain hg fun K' hK' => ?_
  unfold Oper.wp
  rcases h.next (P := P) hn o.type with ⟨hl, hrun⟩ | ⟨x, v, w', hx, hv, hrun, hr', hgr, hsz, hen⟩
  · simp [execOp, hop, hit, hrun, Result.andThen]
    exact hK' _ _ (hDone hl)
  · simp [execOp, hop, hit, hrun, Result.andThen]
    exact hK' _ _ (hMore x v w' hx hv hr' hgr hsz hen)
end
end Go.Proofs.YtnpfoicniodobaaGreat
