/- append onto a row of the call's own: the law in the form in which it is used here. No program is named. -/
import Derived.Test.YtnpfoicniodobaaGreatB
import Derived.Maps.AppendAt
import Derived.OneCell
import Derived.Deep.AppendLies
namespace Go.Proofs.YtnpfoicniodobaaGreat
open Go.RowKit

/-- What is said of an appended row: it is the row with the new cells; only its old block (if any) was written; it lies where it lay, or in a new block. -/
structure Appd (W : World) (base e size : Nat) (v : Value) (n : Nat) (cs : List Value) (v1 : Value) (w1 : World) : Prop where
  own : w1.ownsRow base e size v1 n cs
  grown : W.grownBy w1 v.ownBlock
  at_ : v1.ownBlock = v.ownBlock ∨ v1.ownBlock = some (W.heap.size)

theorem Appd.below {W w : World} {base e size : Nat} {v : Value} {n : Nat} {cs : List Value} {v1 : Value} {w1 : World} (h : Appd W base e size v n cs v1 w1) {m : Nat} {xs : List Value} (HO : W.ownsRow base e size v m xs) {B : Nat} (hB : B ≤ base) (hb : Below B w W) (hs : B ≤ W.heap.size) : Below B w w1 :=
  hb.grown h.grown hs (fun k hk => Nat.le_trans hB (HO.lt k hk).1)

section
variable {P : Program} {ops : Array Oper} {rest : List Oper} {o : Oper} {a : Act} {Q : Exit → Act → World → Prop} {W : World}

/-- append(v, x, ..), the new elements in a block that has just been laid. -/
theorem wp_app (base : Nat) (hgd : o.guard = none) (s x : Operand) (t e : TypeId) (z : Value) (size bytes : Nat)
    (ho : o.op = .call { callee := .builtin .append, args := #[s, x], argTypes := #[t, t] })
    (ht : P.underlying t = some (.slice e)) (hinfo : (P.info? e).map (fun i => (i.zero, i.size, i.bytes)) = some (some z, size, bytes)) (hz : z.cells.size = size) (hs0 : 0 < size) (hb0 : 0 < bytes)
    (v : Value) (n : Nat) (xs : List Value) (m : Nat) (news : Array Value) (bk : Nat) (hs : a.eval s = v) (hx : a.eval x = .slice (some ⟨bk, 0, none⟩) m m) (hbk : W.heap.size = bk) (hm : news.size = m * size) (h1 : ∀ u ∈ news.toList, u.oneCell' = true)
    (HO : W.ownsRow base e size v n xs) (hbase : base ≤ W.heap.size) (hl : (n + m) * bytes ≤ 140737488355328)
    (h : ∀ v1 w1, Appd (W.alloc (.cells news e)) base e size v (n + m) (xs ++ news.toList) v1 w1 → wpList P ops Q rest (a.put o.dst v1) w1) :
    wpList P ops Q (o :: rest) a (W.alloc (.cells news e)) := by
  subst hbk
  obtain ⟨i0, hi, hzz⟩ := Option.map_eq_some_iff.1 hinfo
  simp only [Prod.mk.injEq] at hzz
  obtain ⟨hz0, hz1, hz2⟩ := hzz
  have hlen : n + m ≤ 140737488355328 := Nat.le_trans (Nat.le_mul_of_pos_right _ hb0) hl
  refine wpList_append_own_at (W.alloc (.cells news e)) hgd s x t ho base e i0 z size bytes ht hi hz0 hz1 hz2 hz hs0 v n xs hs (HO.alloc _) ⟨W.heap.size, 0, none⟩ m m news.toList hx (by simpa using hm)
    (World.news_of_block (cs := news) (t := e) (fr := (0, 0)) (heap_alloc_new W _)) h1 (by simp only [maxLen]; omega) hl (by simp; omega) ?_
  intro v1 w1 hown hg _ hat
  exact h v1 w1 ⟨hown, hg, hat⟩

/-- append(v, xs...), xs wherever it lies. -/
theorem wp_apps (base : Nat) (hgd : o.guard = none) (s x : Operand) (t e : TypeId) (z : Value) (size bytes : Nat)
    (ho : o.op = .call { callee := .builtin .append, args := #[s, x], argTypes := #[t, t] })
    (ht : P.underlying t = some (.slice e)) (hinfo : (P.info? e).map (fun i => (i.zero, i.size, i.bytes)) = some (some z, size, bytes)) (hz : z.cells.size = size) (hs0 : 0 < size) (hb0 : 0 < bytes)
    (v : Value) (n : Nat) (xs : List Value) (m c : Nat) (ad : Addr) (news : List Value) (hs : a.eval s = v) (hx : a.eval x = .slice (some ad) m c) (hm : news.length = m * size) (h1 : ∀ u ∈ news, u.oneCell' = true)
    (hnews : ∀ j u, news[j]? = some u → W.cell? (ad.add j) = some u)
    (HO : W.ownsRow base e size v n xs) (hbase : base ≤ W.heap.size) (hl : (n + m) * bytes ≤ 140737488355328)
    (h : ∀ v1 w1, Appd W base e size v (n + m) (xs ++ news) v1 w1 → (v1 = .slice none 0 0 ↔ v = .slice none 0 0 ∧ m = 0) → wpList P ops Q rest (a.put o.dst v1) w1) :
    wpList P ops Q (o :: rest) a W := by
  obtain ⟨i0, hi, hzz⟩ := Option.map_eq_some_iff.1 hinfo
  simp only [Prod.mk.injEq] at hzz
  obtain ⟨hz0, hz1, hz2⟩ := hzz
  have hlen : n + m ≤ 140737488355328 := Nat.le_trans (Nat.le_mul_of_pos_right _ hb0) hl
  refine wpList_append_own_at W hgd s x t ho base e i0 z size bytes ht hi hz0 hz1 hz2 hz hs0 v n xs hs HO ad m c news hx hm hnews h1 (by simp only [maxLen]; omega) hl hbase ?_
  intro v1 w1 hown hg hnil hat
  exact h v1 w1 ⟨hown, hg, hat⟩ hnil
end

theorem own_below {w w1 : World} {base e size : Nat} {v : Value} {n : Nat} {xs : List Value} (h : w.ownsRow base e size v n xs) (hb : Below w.heap.size w w1) : w1.ownsRow base e size v n xs :=
  h.kept (row := none) ⟨hb.os, hb.tape, hb.output, hb.size, fun i hi _ => hb.block i hi⟩ (by cases v.ownBlock <;> simp)
theorem own_ge {w : World} {b b' e size : Nat} {v : Value} {n : Nat} {xs : List Value} (h : w.ownsRow b e size v n xs) (hb : b' ≤ b) : w.ownsRow b' e size v n xs := by
  refine ⟨h.1, ?_⟩
  rcases h.2 with h1 | ⟨g, cap, cur, r1, r2, r3⟩
  · exact .inl h1
  · exact .inr ⟨g, cap, cur, r1, by omega, r3⟩
/-- The shape of a row of the call's own. -/
theorem own_form {w : World} {base e size : Nat} {v : Value} {n : Nat} {xs : List Value} (h : w.ownsRow base e size v n xs) : (v = .slice none 0 0 ∧ n = 0) ∨ ∃ b c, v = .slice (some ⟨b, 0, none⟩) n c ∧ base ≤ b ∧ b < w.heap.size ∧ n ≤ c ∧ ∀ j u, xs[j]? = some u → w.cell? ⟨b, j, none⟩ = some u := by
  rcases h.2 with h1 | ⟨g, cap, cur, rfl, r2, r3, r4, r5, r6, r7⟩
  · exact .inl h1
  · refine .inr ⟨g, cap, rfl, r2, (Array.getElem?_eq_some_iff.1 r3).1, r4, fun j u hu => ?_⟩
    have := h.cells (g := g) rfl j u hu
    rwa [show (⟨g, 0, none⟩ : Addr).add j = ⟨g, j, none⟩ from by unfold Addr.add; split <;> simp_all] at this
theorem own_slice {w : World} {base e size : Nat} {v : Value} {n : Nat} {xs : List Value} (h : w.ownsRow base e size v n xs) : ∃ A c, v = .slice A n c := by
  rcases own_form h with ⟨rfl, rfl⟩ | ⟨b, c, rfl, _⟩
  · exact ⟨none, 0, rfl⟩
  · exact ⟨_, c, rfl⟩
def ints (xs : List Int) : List Value := xs.map (fun x => .int .i64 x)
theorem own_ints {w : World} {base e : Nat} {v : Value} {n : Nat} {xs : List Int} (h : w.ownsRow base e 1 v n (ints xs)) : n = xs.length ∧ ((v = .slice none 0 0 ∧ xs = []) ∨ ∃ b c, v = .slice (some ⟨b, 0, none⟩) xs.length c ∧ base ≤ b ∧ b < w.heap.size ∧ xs.length ≤ c ∧ CellsI w b 0 xs) := by
  have hl : xs.length = n := by have := h.1; simpa [ints] using this
  refine ⟨hl.symm, ?_⟩
  rcases own_form h with ⟨r1, r2⟩ | ⟨b, c, r1, r2, r3, r4, r5⟩
  · exact .inl ⟨r1, List.eq_nil_of_length_eq_zero (by omega)⟩
  · refine .inr ⟨b, c, by rw [r1, hl], r2, r3, by omega, fun j hj => ?_⟩
    rw [Nat.zero_add]
    refine r5 j _ ?_
    simp [ints, List.getElem?_eq_getElem hj, getElem!_pos xs j hj]
theorem take_snoc {α β : Type} [Inhabited α] (f : α → β) (zs : List α) (k : Nat) (h : k < zs.length) : (zs.take (k + 1)).map f = (zs.take k).map f ++ [f zs[k]!] := by
  rw [List.take_succ_eq_append_getElem h, getElem!_pos zs k h, List.map_append]
  rfl
/-- The first k elements' numbers, as cells (a name that no simp set opens). -/
def mapTo {α : Type} (f : α → Int) (zs : List α) (k : Nat) : List Value := ints ((zs.take k).map f)
theorem mapTo_zero {α : Type} (f : α → Int) (zs : List α) : mapTo f zs 0 = [] := by simp [mapTo, ints]
theorem mapTo_succ {α : Type} [Inhabited α] (f : α → Int) (zs : List α) (k : Nat) (h : k < zs.length) : mapTo f zs (k + 1) = mapTo f zs k ++ [.int .i64 (f zs[k]!)] := by
  unfold mapTo ints
  rw [take_snoc f zs k h, List.map_append]
  rfl
theorem mapTo_all {α : Type} (f : α → Int) (zs : List α) (k : Nat) (h : zs.length = k) : mapTo f zs k = ints (zs.map f) := by
  unfold mapTo
  rw [← h, List.take_length]
theorem frozen_of_blk {w : World} {b : Nat} {c : Array Value} {e : TypeId} (h : w.heap[b]? = some (.cells c e (0, 0))) (i : Nat) : w.frozen? ⟨b, i, none⟩ = false := by simp [World.frozen?, h]
theorem cell_of_blk {w : World} {b : Nat} {c : Array Value} {e : TypeId} (h : w.heap[b]? = some (.cells c e (0, 0))) (i : Nat) : w.cell? ⟨b, i, none⟩ = c[i]? := by simp [World.cell?, h]
theorem set_blk {w : World} {b : Nat} {c : Array Value} {e : TypeId} (h : w.heap[b]? = some (.cells c e (0, 0))) (i : Nat) (v : Value) : (w.setCell ⟨b, i, none⟩ v).heap[b]? = some (.cells (c.setIfInBounds i v) e (0, 0)) := by
  obtain ⟨hlt, h'⟩ := Array.getElem?_eq_some_iff.1 h
  show (w.heap.modify b _)[b]? = _
  rw [Array.getElem?_eq_getElem (by simpa using hlt), Array.getElem_modify_self, h']
  rfl
theorem grown_blk {w w1 : World} {row : Option Nat} (hg : w.grownBy w1 row) {b : Nat} {o : Obj} (h : w.heap[b]? = some o) (hne : some b ≠ row) : w1.heap[b]? = some o :=
  (hg.block b (Array.getElem?_eq_some_iff.1 h).1 hne).trans h
theorem alloc_blk {w : World} (o' : Obj) {b : Nat} {o : Obj} (h : w.heap[b]? = some o) : (w.alloc o').heap[b]? = some o := (heap_alloc_old w o' (Array.getElem?_eq_some_iff.1 h).1).trans h
theorem below_blk {w w1 : World} (hb : Below w.heap.size w w1) {b : Nat} {o : Obj} (h : w.heap[b]? = some o) : w1.heap[b]? = some o := (hb.block b (Array.getElem?_eq_some_iff.1 h).1).trans h
theorem set_blk_other {w : World} {a : Addr} {v : Value} {b : Nat} {o : Obj} (h : w.heap[b]? = some o) (hne : b ≠ a.block) : (w.setCell a v).heap[b]? = some o := (Below.heap_setCell w a v b hne).trans h
end Go.Proofs.YtnpfoicniodobaaGreat
