/- Laws on maps whose keys are whole numbers: what a lookup finds, what a store makes. No program is named here. -/
import Derived.WalkKit
import Derived.Maps.Own
import Derived.Lib.Hide
namespace Go.Proofs.YtnpfoicniodobaaGreat
open Go.RowKit

/-- Block b is a map from int; its entries, in the order in which they came, are l (keys: each once). -/
def MapI (w : World) (b : Nat) (l : List (Int × Value)) : Prop :=
  ∃ es clock, w.heap[b]? = some (.map es clock) ∧ es.toList.map (fun e => (e.key, e.val)) = l.map (fun p => (Value.int .i64 p.1, p.2)) ∧ (es.toList.map (·.born)).Nodup ∧ ∀ x ∈ es.toList, x.born < clock

def lk (l : List (Int × Value)) (k : Int) : Option Value := (l.find? (fun p => p.1 == k)).map (·.2)
def up (l : List (Int × Value)) (k : Int) (v : Value) : List (Int × Value) :=
  if l.any (fun p => p.1 == k) then l.map (fun p => if p.1 == k then (p.1, v) else p) else l ++ [(k, v)]

theorem MapI.lt {w : World} {b : Nat} {l : List (Int × Value)} (h : MapI w b l) : b < w.heap.size := by
  obtain ⟨es, clock, hb, _⟩ := h
  exact (Array.getElem?_eq_some_iff.1 hb).1
theorem MapI.new (w : World) : MapI (w.alloc (.map #[] 0)) w.heap.size [] := ⟨#[], 0, heap_alloc_new w _, rfl, by simp, by simp⟩
theorem MapI.kept {w w' : World} {b : Nat} {l : List (Int × Value)} (h : MapI w b l) {row : Option Nat} (hg : w.grownBy w' row) (hne : some b ≠ row) : MapI w' b l := by
  have hlt := h.lt
  obtain ⟨es, clock, hb, he⟩ := h
  exact ⟨es, clock, (hg.block b hlt hne).trans hb, he⟩
theorem MapI.below {w w' : World} {b : Nat} {l : List (Int × Value)} (h : MapI w b l) (hb : Below w.heap.size w w') : MapI w' b l := by
  have hlt := h.lt
  obtain ⟨es, clock, hb', he⟩ := h
  exact ⟨es, clock, (hb.block b hlt).trans hb', he⟩

theorem MapI.new' (w : World) (b : Nat) (h : w.heap.size = b) : MapI (w.alloc (.map #[] 0)) b [] := h ▸ MapI.new w
theorem MapI.alloc {w : World} {b : Nat} {l : List (Int × Value)} (h : MapI w b l) (o : Obj) : MapI (w.alloc o) b l := h.kept (World.grownBy_alloc w o none) (by simp)

theorem findNow_int (k : Int) : ∀ (es : List MapEntry) (l : List (Int × Value)) (i : Nat), es.map (fun e => (e.key, e.val)) = l.map (fun p => (Value.int .i64 p.1, p.2)) →
    (lk l k = none ∧ Instr.findNow (.int .i64) (.int .i64 k) es i = some none) ∨
    ∃ (j : Nat) (v : Value) (e : MapEntry), lk l k = some v ∧ es[j]? = some e ∧ e.key = .int .i64 k ∧ l[j]? = some (k, v) ∧ (∀ m, m < j → ∀ p, l[m]? = some p → p.1 ≠ k) ∧ Instr.findNow (.int .i64) (.int .i64 k) es i = some (some (i + j, v))
  | [], [], i, _ => .inl ⟨rfl, rfl⟩
  | [], _ :: _, i, h => by simp at h
  | _ :: _, [], i, h => by simp at h
  | e :: es, p :: l, i, h => by
    simp only [List.map_cons, List.cons.injEq, Prod.mk.injEq] at h
    obtain ⟨⟨hk, hv⟩, ht⟩ := h
    by_cases hpk : p.1 = k
    · refine .inr ⟨0, p.2, e, ?_, rfl, by rw [hk, hpk], by simp [← hpk], fun m hm => absurd hm (Nat.not_lt_zero _), ?_⟩
      · simp [lk, hpk]
      · simp [Instr.findNow, Instr.sameNow, hk, hpk, hv]
    · have hpk' : (p.1 == k) = false := beq_eq_false_iff_ne.2 hpk
      have hpk2 : (k == p.1) = false := beq_eq_false_iff_ne.2 (fun e => hpk e.symm)
      rcases findNow_int k es l (i + 1) ht with ⟨h1, h2⟩ | ⟨j, v, e0, h1, h2, h3, h4, h5, h6⟩
      · refine .inl ⟨?_, ?_⟩
        · simpa [lk, hpk'] using h1
        · simp [Instr.findNow, Instr.sameNow, hk, hpk2, h2]
      · refine .inr ⟨j + 1, v, e0, ?_, by simpa using h2, h3, by simpa using h4, ?_, ?_⟩
        · simpa [lk, hpk'] using h1
        · intro m hm q hq
          cases m with
          | zero => simp at hq; subst hq; exact hpk
          | succ m => exact h5 m (by omega) q (by simpa using hq)
        · simp [Instr.findNow, Instr.sameNow, hk, hpk2, h6]
          omega

section
variable {P : Program} {kt e t : TypeId}

theorem checkKey_any (hk : P.underlying kt = some (.int .i64)) (b : Bool) (k : Int) (w : World) (n : Nat) : (Instr.checkKey b (n + 1) kt (.int .i64 k)).run P w = .ok () w := by
  unfold Instr.checkKey
  simp [run_underlying hk]
theorem checkKey_int (hk : P.underlying kt = some (.int .i64)) (b : Bool) (k : Int) (w : World) : (Instr.checkKey b 10000 kt (.int .i64 k)).run P w = .ok () w := checkKey_any hk b k w 9999

/-- m[k] without ok. -/
theorem MapI.get {w : World} {b : Nat} {l : List (Int × Value)} (h : MapI w b l) (ht : P.underlying t = some (.map kt e)) (hk : P.underlying kt = some (.int .i64)) (z : Value) (hz : ∀ w, (zeroValue e).run P w = .ok z w) (k : Int) :
    (Instr.lookup t (.map (some b)) (.int .i64 k) false).run P w = .ok ((lk l k).getD z) w := by
  obtain ⟨es, clock, hb, he, hbn, hbc⟩ := h
  rcases findNow_int k es.toList l 0 he with ⟨h1, h2⟩ | ⟨j, v, e0, h1, h2, h3, h4, h5, h6⟩
  · simp [Instr.lookup, run_underlying ht, MapKept.run_getObj_map hb, checkKey_int hk, Instr.findKey, run_underlying hk, h2, h1, hz, Result.andThen]
  · simp [Instr.lookup, run_underlying ht, MapKept.run_getObj_map hb, checkKey_int hk, Instr.findKey, run_underlying hk, h6, h1, Result.andThen]

/-- v, ok := m[k]. -/
theorem MapI.getOk {w : World} {b : Nat} {l : List (Int × Value)} (h : MapI w b l) (ht : P.underlying t = some (.map kt e)) (hk : P.underlying kt = some (.int .i64)) (z : Value) (hz : ∀ w, (zeroValue e).run P w = .ok z w) (k : Int) :
    (Instr.lookup t (.map (some b)) (.int .i64 k) true).run P w = .ok (.tuple #[(lk l k).getD z, .bool (lk l k).isSome]) w := by
  obtain ⟨es, clock, hb, he, hbn, hbc⟩ := h
  rcases findNow_int k es.toList l 0 he with ⟨h1, h2⟩ | ⟨j, v, e0, h1, h2, h3, h4, h5, h6⟩
  · simp [Instr.lookup, run_underlying ht, MapKept.run_getObj_map hb, checkKey_int hk, Instr.findKey, run_underlying hk, h2, h1, hz, Result.andThen]
  · simp [Instr.lookup, run_underlying ht, MapKept.run_getObj_map hb, checkKey_int hk, Instr.findKey, run_underlying hk, h6, h1, Result.andThen]

theorem lk_none {l : List (Int × Value)} {k : Int} (h : lk l k = none) : l.any (fun p => p.1 == k) = false := by
  simp only [lk, Option.map_eq_none_iff, List.find?_eq_none] at h
  rw [List.any_eq_false]
  exact fun p hp => h p hp
theorem lk_some {l : List (Int × Value)} {k : Int} {v : Value} (h : lk l k = some v) : l.any (fun p => p.1 == k) = true := by
  simp only [lk, Option.map_eq_some_iff] at h
  obtain ⟨p, hp, _⟩ := h
  exact List.any_eq_true.2 ⟨p, List.mem_of_find?_eq_some hp, by simpa using List.find?_some hp⟩
end

theorem up_nodup {l : List (Int × Value)} (k : Int) (v : Value) (h : (l.map (·.1)).Nodup) : ((up l k v).map (·.1)).Nodup := by
  unfold up
  split
  · have : (l.map (fun p => if (p.1 == k) = true then (p.1, v) else p)).map (·.1) = l.map (·.1) := by
      rw [List.map_map]
      apply List.map_congr_left
      intro p _
      simp only [Function.comp]
      split <;> rfl
    rw [this]; exact h
  · rename_i hn
    rw [List.map_append, List.nodup_append]
    refine ⟨h, by simp, ?_⟩
    intro a ha b hb
    simp at hb
    subst hb
    intro e
    subst e
    obtain ⟨p, hp, rfl⟩ := List.mem_map.1 ha
    exact hn (List.any_eq_true.2 ⟨p, hp, by simp⟩)

theorem lk_up (l : List (Int × Value)) (k : Int) (v : Value) (j : Int) : lk (up l k v) j = if j = k then some v else lk l j := by
  unfold up
  by_cases h : l.any (fun p => p.1 == k) = true
  · rw [if_pos h]
    induction l with
    | nil => simp at h
    | cons p l ih =>
      by_cases hp : p.1 = k
      · by_cases hj : j = k
        · simp [lk, hp, hj]
        · have hk : ¬ k = j := fun e => hj e.symm
          by_cases hl : l.any (fun p => p.1 == k) = true
          · have := ih hl
            simp only [hj, if_false] at this
            simpa [lk, hp, hj, hk] using this
          · have hl' : l.map (fun p => if (p.1 == k) = true then (p.1, v) else p) = l := by
              conv => rhs; rw [← List.map_id l]
              apply List.map_congr_left
              intro q hq
              have : ¬ (q.1 == k) = true := fun e => hl (List.any_eq_true.2 ⟨q, hq, e⟩)
              simp [this]
            simp only [lk, List.map_cons, hl', hp, hj, if_false]
            simp [hk, hp]
      · have hl : l.any (fun p => p.1 == k) = true := by
          simp only [List.any_cons, Bool.or_eq_true, beq_iff_eq] at h
          rcases h with h | h
          · exact absurd h hp
          · simpa using h
        have := ih hl
        by_cases hpj : p.1 = j
        · have : ¬ j = k := fun e => hp (hpj.trans e)
          simp [lk, hpj, this]
        · simpa [lk, hp, hpj] using this
  · rw [if_neg h]
    by_cases hj : j = k
    · subst hj
      have hn : l.find? (fun p => p.1 == j) = none := by
        rw [List.find?_eq_none]
        exact fun p hp e => h (List.any_eq_true.2 ⟨p, hp, e⟩)
      simp [lk, List.find?_append, hn]
    · have : ¬ k = j := fun e => hj e.symm
      simp [lk, List.find?_append, hj, this]

section
variable {P : Program} {kt e t : TypeId}

theorem map_modify_at {α β : Type} (f : α → β) (g : α → α) : ∀ (l : List α) (j : Nat), (l.modify j g).map f = (l.map f).mapIdx (fun i y => if i = j then (match l[j]? with | some x => f (g x) | none => y) else y)
  | [], j => by simp
  | x :: l, 0 => by
    simp only [List.modify_zero_cons, List.map_cons, List.mapIdx_cons, if_true, List.getElem?_cons_zero]
    congr 1
    apply List.ext_getElem?
    intro i
    simp
    cases l[i]? <;> rfl
  | x :: l, j + 1 => by
    have := map_modify_at f g l j
    simp only [List.modify_succ_cons, List.map_cons, List.mapIdx_cons, this]
    simp

/-- m[k] = v. -/
theorem MapI.put {w : World} {b : Nat} {l : List (Int × Value)} (h : MapI w b l) (hn : (l.map (·.1)).Nodup) (ht : P.underlying t = some (.map kt e)) (hk : P.underlying kt = some (.int .i64)) (k : Int) (v : Value) :
    ∃ w', (Instr.mapUpdate t (.map (some b)) (.int .i64 k) v).run P w = .ok () w' ∧ MapI w' b (up l k v) ∧ w.grownBy w' (some b) := by
  obtain ⟨es, clock, hb, he, hbn, hbc⟩ := h
  have hset : ∀ es' c', (World.grownBy w { w with heap := w.heap.setIfInBounds b (.map es' c') } (some b)) := fun es' c' =>
    ⟨rfl, rfl, rfl, by simp, fun i hi hne => by
      have : b ≠ i := fun e => hne (by rw [e])
      simp [this]⟩
  have hlt := (Array.getElem?_eq_some_iff.1 hb).1
  rcases findNow_int k es.toList l 0 he with ⟨h1, h2⟩ | ⟨j, v0, e0, h1, h2, h3, h4, h5, h6⟩
  · refine ⟨{ w with heap := w.heap.setIfInBounds b (.map (es.push { key := .int .i64 k, val := v, born := clock }) (clock + 1)) }, ?_, ⟨es.push { key := .int .i64 k, val := v, born := clock }, clock + 1, by simp [hlt], ?_, ?_, ?_⟩, hset _ _⟩
    · simp [Instr.mapUpdate, run_underlying ht, MapKept.run_getObj_map hb, checkKey_int hk, Instr.findKey, run_underlying hk, h2, Result.andThen, setObj, Sem.run, hb]
    · rw [up, if_neg (by rw [lk_none h1]; simp)]
      simp [he]
    · simp only [Array.toList_push, List.map_append, List.nodup_append]
      refine ⟨hbn, by simp, ?_⟩
      intro x hx y hy
      simp at hy
      subst hy
      obtain ⟨z, hz, rfl⟩ := List.mem_map.1 hx
      have := hbc z hz
      omega
    · intro x hx
      simp only [Array.toList_push, List.mem_append, List.mem_singleton] at hx
      rcases hx with hx | hx
      · have := hbc x hx; omega
      · subst hx; simp
  · have hj : es[j]? = some e0 := by simpa using h2
    refine ⟨{ w with heap := w.heap.setIfInBounds b (.map (es.modify j fun e => { e with key := .int .i64 k, val := v }) clock) }, ?_, ⟨es.modify j fun e => { e with key := .int .i64 k, val := v }, clock, by simp [hlt], ?_, ?_, ?_⟩, hset _ _⟩
    · simp [Instr.mapUpdate, run_underlying ht, MapKept.run_getObj_map hb, checkKey_int hk, Instr.findKey, run_underlying hk, h6, Result.andThen, setObj, Sem.run, hb, hj, h3, Instr.keyThatStays, Instr.sameBits]
    · rw [up, if_pos (lk_some h1), Array.toList_modify, map_modify_at, he, h2]
      apply List.ext_getElem?
      intro i
      simp only [List.getElem?_mapIdx, List.getElem?_map]
      cases hi : l[i]? with
      | none => simp
      | some p =>
        simp only [Option.map_some]
        by_cases hij : i = j
        · subst hij
          rw [h4] at hi
          cases hi
          simp
        · rw [if_neg hij]
          have hpk : ¬ p.1 = k := by
            intro e
            have hlen : i < l.length := (List.getElem?_eq_some_iff.1 hi).1
            have hlen' : j < l.length := (List.getElem?_eq_some_iff.1 h4).1
            have e1 : (l.map (·.1))[i]? = some k := by rw [List.getElem?_map, hi]; simp [e]
            have e2 : (l.map (·.1))[j]? = some k := by rw [List.getElem?_map, h4]; simp
            have := (List.getElem?_inj (by simpa using hlen) hn).1 (e1.trans e2.symm)
            exact hij this
          simp [hpk]
    · have : (es.modify j fun e => { e with key := .int .i64 k, val := v }).toList.map (·.born) = es.toList.map (·.born) := by
        rw [Array.toList_modify, map_modify_at]
        apply List.ext_getElem?
        intro i
        simp only [List.getElem?_mapIdx]
        cases hi : (es.toList.map (·.born))[i]? with
        | none => simp
        | some y =>
          simp only [Option.map_some]
          by_cases hij : i = j
          · subst hij
            rw [if_pos rfl, h2]
            rw [List.getElem?_map, h2] at hi
            simp at hi
            simp [hi]
          · rw [if_neg hij]
      rw [this]; exact hbn
    · intro x hx
      rw [Array.toList_modify] at hx
      obtain ⟨i, hi⟩ := List.mem_iff_getElem?.1 hx
      rw [List.getElem?_modify] at hi
      cases hy : es.toList[i]? with
      | none => rw [hy] at hi; simp at hi
      | some y =>
        rw [hy] at hi
        have hm := hbc y (List.mem_of_getElem? hy)
        simp at hi
        rw [← hi]
        split <;> exact hm
end
end Go.Proofs.YtnpfoicniodobaaGreat
