/- The empty plan: AddNode; one node alone; awake. -/
import Derived.Test.YtnpfoicniodobaaGreatE4
import Derived.Test.YtnpfoicniodobaaGreatIxN
import Derived.Test.YtnpfoicniodobaaGreatIxE
import Derived.Test.YtnpfoicniodobaaGreatTr
namespace Go.Proofs.YtnpfoicniodobaaGreat
open Go.RowKit
theorem cell_set2 {w : World} {a a' : Addr} {v v' u : Value} {b o : Nat} (h : w.cell? ⟨b, o, none⟩ = some u) (h1 : b ≠ a.block) (h2 : b ≠ a'.block) : ((w.setCell a v).setCell a' v').cell? ⟨b, o, none⟩ = some u :=
  (World.cell?_of_block (w := w.setCell a v) (Below.heap_setCell (w.setCell a v) a' v' b h2)).trans ((World.cell?_of_block (w := w) (Below.heap_setCell w a v b h1)).trans h)
theorem frozen_below {w w1 : World} (hb : Below w.heap.size w w1) {a : Addr} {v : Value} (hc : w.cell? a = some v) {f : Bool} (hf : w.frozen? a = f) : w1.frozen? a = f := (hb.frozen (World.block_lt_of_cell? w a hc)).trans hf
set_option maxHeartbeats 1000000 in
theorem free0_nil (p : Pt) (w : World) :
    Calls Tryz.prog 61 #[.agg #[.slice none 0 0, .slice none 0 0], vP p] w fun e w' => e = .returned (.bool true) ∧ Below w.heap.size w w' := by
  obtain ⟨x, y⟩ := p
  simp only [vP]
  go_enter Tryz.func61, Tryz.ntmps61
  go_wp2_with fail
  refine (near_any ⟨x, y⟩ _).mono ?_
  rintro e w1 ⟨rfl, hb1⟩
  simp only [vP]
  have hp : w1.heap[w.heap.size]? = some (.cells #[.slice none 0 0, .slice none 0 0] 25 (0, 0)) := (hb1.block _ (by simp; omega)).trans (alloc_blk _ (heap_alloc_new w _))
  have hq : w1.heap[w.heap.size + 1]? = some (.cells #[.int .i64 x, .int .i64 y] 27 (0, 0)) := (hb1.block _ (by simp)).trans (by have := heap_alloc_new (w.alloc (.cells #[.slice none 0 0, .slice none 0 0] 25)) (.cells #[.int .i64 x, .int .i64 y] 27); simpa using this)
  have a1 : w1.cell? ⟨w.heap.size, 0, none⟩ = some (.slice none 0 0) := cell_of_blk hp 0
  have a2 : w1.cell? ⟨w.heap.size, 1, none⟩ = some (.slice none 0 0) := cell_of_blk hp 1
  have c0 : w1.cell? ⟨w.heap.size + 1, 0, none⟩ = some (.int .i64 x) := cell_of_blk hq 0
  have c1 : w1.cell? ⟨w.heap.size + 1, 1, none⟩ = some (.int .i64 y) := cell_of_blk hq 1
  have f1 := frozen_of_blk hq 0
  have f2 := frozen_of_blk hq 1
  have HB : Aside (Below w.heap.size w w1) := (((Below.refl _ _).alloc (Nat.le_refl _) _).alloc (by simp) _).trans (hb1.mono (by simp; omega))
  clear hb1 hp hq
  go_wp2_with fail
  refine (containsN_nil _ _ _ _).mono ?_
  rintro e w2 ⟨rfl, rfl⟩
  go_wp2_with fail
  refine (containsE_nil _ _ _ _).mono ?_
  rintro e w2 ⟨rfl, rfl⟩
  go_wp2_with fail
  go_ret
  exact ⟨rfl, ((HB.out.setCell (p := ⟨w.heap.size + 1, 0, none⟩) (by simp) _).setCell (p := ⟨w.heap.size + 1, 1, none⟩) (by simp) _)⟩

set_option maxHeartbeats 1000000 in
theorem addNode_nil (faceAt : ∀ (q : Pt) (w : World), Calls Tryz.prog 62 #[.agg #[.slice none 0 0, .slice none 0 0], vP q] w fun e w' => e = .returned (.int .i64 0) ∧ Below w.heap.size w w') (p : Pt) (hok : okP p = true) (w : World) :
    Calls Tryz.prog 27 #[.agg #[.slice none 0 0, .slice none 0 0], vP p] w fun e w' => (∃ b c, e = .returned (.tuple #[.agg #[.slice (some ⟨b, 0, none⟩) 1 c, .slice none 0 0], .int .i64 1, .int .i64 0]) ∧ CellsN w' b 0 [⟨1, p.x, p.y, 0⟩]) ∧ Below w.heap.size w w' := by
  obtain ⟨x, y⟩ := p
  have HF := Lib.hid faceAt
  clear faceAt
  simp only [vP]
  go_enter Tryz.func27, Tryz.ntmps27
  go_wp2_with fail
  refine (ok_any ⟨x, y⟩ _).mono ?_
  rw [hok]
  rintro e w1 ⟨rfl, hb1⟩
  have hp1 : w1.heap[w.heap.size]? = some (.cells #[.slice none 0 0, .slice none 0 0] 25 (0, 0)) := (hb1.block _ (by simp; omega)).trans (alloc_blk _ (alloc_blk _ (heap_alloc_new w _)))
  have hq1 : w1.heap[w.heap.size + 1]? = some (.cells #[.int .i64 x, .int .i64 y] 27 (0, 0)) := (hb1.block _ (by simp)).trans (alloc_blk _ (by have := heap_alloc_new (w.alloc (.cells #[.slice none 0 0, .slice none 0 0] 25)) (.cells #[.int .i64 x, .int .i64 y] 27); simpa using this))
  have hr1 : w1.heap[w.heap.size + 1 + 1]? = some (.cells #[.slice none 0 0, .slice none 0 0] 25 (0, 0)) := (hb1.block _ (by simp)).trans (by have := heap_alloc_new ((w.alloc (.cells #[.slice none 0 0, .slice none 0 0] 25)).alloc (.cells #[.int .i64 x, .int .i64 y] 27)) (.cells #[.slice none 0 0, .slice none 0 0] 25); simpa using this)
  have HB1 : Aside (Below w.heap.size w w1) := ((((Below.refl _ _).alloc (Nat.le_refl _) _).alloc (by simp) _).alloc (by simp; omega) _).trans (hb1.mono (by simp; omega))
  have HH1 : Aside (w1.heap[w.heap.size]? = some (.cells #[.slice none 0 0, .slice none 0 0] 25 (0, 0)) ∧ w1.heap[w.heap.size + 1]? = some (.cells #[.int .i64 x, .int .i64 y] 27 (0, 0)) ∧ w1.heap[w.heap.size + 1 + 1]? = some (.cells #[.slice none 0 0, .slice none 0 0] 25 (0, 0))) := ⟨hp1, hq1, hr1⟩
  have a1 : w1.cell? ⟨w.heap.size, 0, none⟩ = some (.slice none 0 0) := cell_of_blk hp1 0
  have a2 : w1.cell? ⟨w.heap.size, 1, none⟩ = some (.slice none 0 0) := cell_of_blk hp1 1
  have c0 : w1.cell? ⟨w.heap.size + 1, 0, none⟩ = some (.int .i64 x) := cell_of_blk hq1 0
  have c1 : w1.cell? ⟨w.heap.size + 1, 1, none⟩ = some (.int .i64 y) := cell_of_blk hq1 1
  clear hb1 hp1 hq1 hr1
  go_wp2_with fail
  refine (free0_nil ⟨x, y⟩ _).mono ?_
  rintro e w2 ⟨rfl, hb2⟩
  have HB2 : Aside (Below w.heap.size w w2) := below_then HB1.out (by have := World.block_lt_of_cell? _ _ a1; simp at this; omega) hb2
  have HH2 : Aside (w2.heap[w.heap.size]? = some (.cells #[.slice none 0 0, .slice none 0 0] 25 (0, 0)) ∧ w2.heap[w.heap.size + 1]? = some (.cells #[.int .i64 x, .int .i64 y] 27 (0, 0)) ∧ w2.heap[w.heap.size + 1 + 1]? = some (.cells #[.slice none 0 0, .slice none 0 0] 25 (0, 0))) := ⟨below_blk hb2 HH1.out.1, below_blk hb2 HH1.out.2.1, below_blk hb2 HH1.out.2.2⟩
  clear a1 a2 c0 c1 hb2 HH1 HB1
  have a1 : w2.cell? ⟨w.heap.size, 0, none⟩ = some (.slice none 0 0) := cell_of_blk HH2.out.1 0
  have a2 : w2.cell? ⟨w.heap.size, 1, none⟩ = some (.slice none 0 0) := cell_of_blk HH2.out.1 1
  go_wp2_with fail
  refine (nodeIDs_nil _ _ _ _).mono ?_
  rintro e w3 ⟨rfl, hb3⟩
  have HB3 : Aside (Below w.heap.size w w3) := below_then HB2.out (by have := World.block_lt_of_cell? _ _ a1; simp at this; omega) hb3
  have HH3 : Aside (w3.heap[w.heap.size]? = some (.cells #[.slice none 0 0, .slice none 0 0] 25 (0, 0)) ∧ w3.heap[w.heap.size + 1]? = some (.cells #[.int .i64 x, .int .i64 y] 27 (0, 0)) ∧ w3.heap[w.heap.size + 1 + 1]? = some (.cells #[.slice none 0 0, .slice none 0 0] 25 (0, 0))) := ⟨below_blk hb3 HH2.out.1, below_blk hb3 HH2.out.2.1, below_blk hb3 HH2.out.2.2⟩
  clear a1 a2 hb3 HH2 HB2
  go_wp2_with fail
  refine (unused_nil _ _ _).mono ?_
  rintro e w4 ⟨rfl, hb4⟩
  have hz3 := (Array.getElem?_eq_some_iff.1 HH3.out.1).1
  have HB4 : Aside (Below w.heap.size w w4) := below_then HB3.out (by omega) hb4
  have HH4 : Aside (w4.heap[w.heap.size]? = some (.cells #[.slice none 0 0, .slice none 0 0] 25 (0, 0)) ∧ w4.heap[w.heap.size + 1]? = some (.cells #[.int .i64 x, .int .i64 y] 27 (0, 0)) ∧ w4.heap[w.heap.size + 1 + 1]? = some (.cells #[.slice none 0 0, .slice none 0 0] 25 (0, 0))) := ⟨below_blk hb4 HH3.out.1, below_blk hb4 HH3.out.2.1, below_blk hb4 HH3.out.2.2⟩
  clear hb4 HH3 HB3 hz3
  have a1 : w4.cell? ⟨w.heap.size, 0, none⟩ = some (.slice none 0 0) := cell_of_blk HH4.out.1 0
  have a2 : w4.cell? ⟨w.heap.size, 1, none⟩ = some (.slice none 0 0) := cell_of_blk HH4.out.1 1
  have c0 : w4.cell? ⟨w.heap.size + 1, 0, none⟩ = some (.int .i64 x) := cell_of_blk HH4.out.2.1 0
  have c1 : w4.cell? ⟨w.heap.size + 1, 1, none⟩ = some (.int .i64 y) := cell_of_blk HH4.out.2.1 1
  have d1 : w4.cell? ⟨w.heap.size + 1 + 1, 0, none⟩ = some (.slice none 0 0) := cell_of_blk HH4.out.2.2 0
  have d2 : w4.cell? ⟨w.heap.size + 1 + 1, 1, none⟩ = some (.slice none 0 0) := cell_of_blk HH4.out.2.2 1
  have g1 := frozen_of_blk HH4.out.2.2 0
  have g2 := frozen_of_blk HH4.out.2.2 1
  go_wp2_with fail
  go_region_held3 (fun w' => w'.cell? ⟨w.heap.size, 0, none⟩ = some (.slice none 0 0) ∧ w'.cell? ⟨w.heap.size, 1, none⟩ = some (.slice none 0 0) ∧ w'.cell? ⟨w.heap.size + 1, 0, none⟩ = some (.int .i64 x) ∧ w'.cell? ⟨w.heap.size + 1, 1, none⟩ = some (.int .i64 y))
    (first
      | (go_keep; done)
      | (refine ⟨?_, ?_, ?_, ?_⟩ <;> (go_keep; done))
      | exact ⟨cell_set2 (cell_below hb6 (cell_below hb5 a1)) (by show _ ≠ _ + 1 + 1; omega) (by show _ ≠ _ + 1 + 1; omega), cell_set2 (cell_below hb6 (cell_below hb5 a2)) (by show _ ≠ _ + 1 + 1; omega) (by show _ ≠ _ + 1 + 1; omega), cell_set2 (cell_below hb6 (cell_below hb5 c0)) (by show _ ≠ _ + 1 + 1; omega) (by show _ ≠ _ + 1 + 1; omega), cell_set2 (cell_below hb6 (cell_below hb5 c1)) (by show _ ≠ _ + 1 + 1; omega) (by show _ ≠ _ + 1 + 1; omega)⟩
      | exact ⟨cell_below hb5 a1, cell_below hb5 a2, cell_below hb5 c0, cell_below hb5 c1⟩
      | exact ⟨cell_below hb6 (cell_below hb5 a1), cell_below hb6 (cell_below hb5 a2), cell_below hb6 (cell_below hb5 c0), cell_below hb6 (cell_below hb5 c1)⟩)
    (first
      | (go_at_call 62; refine (HF.out ⟨x, y⟩ _).mono ?_; rintro e w5 ⟨rfl, hb5⟩)
      | (go_at_call 74; refine (withNode_nil ⟨1, x, y, 0⟩ _).mono ?_; rintro e w6 ⟨⟨b, c, rfl, hbb, hC⟩, hb6⟩; have d3 := cell_below hb6 (cell_below hb5 d1); have d4 := cell_below hb6 (cell_below hb5 d2); have g3 := frozen_below hb6 (cell_below hb5 d1) (frozen_below hb5 d1 g1); have g4 := frozen_below hb6 (cell_below hb5 d2) (frozen_below hb5 d2 g2)))
  have hr5 := below_blk hb6 (below_blk hb5 HH4.out.2.2)
  have hr6 := set_blk hr5 0 (.slice (some ⟨b, 0, none⟩) 1 c)
  have hr7 := set_blk hr6 1 (.slice none 0 0)
  have k1 : (w6.setCell ⟨w.heap.size + 1 + 1, 0, none⟩ (.slice (some ⟨b, 0, none⟩) 1 c)).cell? ⟨w.heap.size + 1 + 1, 0, none⟩ = some (.slice (some ⟨b, 0, none⟩) 1 c) := cell_of_blk hr6 0
  have k2 : ((w6.setCell ⟨w.heap.size + 1 + 1, 0, none⟩ (.slice (some ⟨b, 0, none⟩) 1 c)).setCell ⟨w.heap.size + 1 + 1, 1, none⟩ (.slice none 0 0)).cell? ⟨w.heap.size + 1 + 1, 1, none⟩ = some (.slice none 0 0) := cell_of_blk hr7 1
  have hs4 : w.heap.size + 2 < w4.heap.size := by have := World.block_lt_of_cell? _ _ d1; simp at this; omega
  have hs5 : w4.heap.size ≤ w5.heap.size := by have := hb5.size; simpa using this
  have hne : b ≠ w.heap.size + 1 + 1 := by omega
  have HB6 : Aside (Below w.heap.size w w6) := below_then HB4.out (by omega) (below_then (show Below w4.heap.size w4 w5 from (show Below w4.heap.size w4 w4.drew from (Below.refl _ _).drew).trans hb5) hs5 hb6)
  have HC := Lib.hid hC
  clear hC hb5 hb6 hr5 hr6 hr7 hbb
  go_wp2_with fail
  refine bodyPost_ret ?_ rfl ⟨⟨b, c, rfl, ?_⟩, ?_⟩
  · simp [results, Tryz.results27, go_sem, k1, k2]
  · exact (HC.out.set (a := ⟨w.heap.size + 1 + 1, 0, none⟩) hne _).set (a := ⟨w.heap.size + 1 + 1, 1, none⟩) hne _
  · exact (HB6.out.setCell (p := ⟨w.heap.size + 1 + 1, 0, none⟩) (by simp; omega) _).setCell (p := ⟨w.heap.size + 1 + 1, 1, none⟩) (by simp; omega) _

theorem set4 {w : World} {s : Nat} {T : TypeId} {o0 o1 o2 o3 : Value} (h : w.heap[s]? = some (.cells #[o0, o1, o2, o3] T (0, 0))) (v0 v1 v2 v3 : Value) :
    (w.setCell ⟨s, 0, none⟩ v0).cell? ⟨s, 0, none⟩ = some v0 ∧ ((w.setCell ⟨s, 0, none⟩ v0).setCell ⟨s, 1, none⟩ v1).cell? ⟨s, 1, none⟩ = some v1 ∧ (((w.setCell ⟨s, 0, none⟩ v0).setCell ⟨s, 1, none⟩ v1).setCell ⟨s, 2, none⟩ v2).cell? ⟨s, 2, none⟩ = some v2 ∧ ((((w.setCell ⟨s, 0, none⟩ v0).setCell ⟨s, 1, none⟩ v1).setCell ⟨s, 2, none⟩ v2).setCell ⟨s, 3, none⟩ v3).cell? ⟨s, 3, none⟩ = some v3 :=
  ⟨cell_of_blk (set_blk h 0 v0) 0, cell_of_blk (set_blk (set_blk h 0 v0) 1 v1) 1, cell_of_blk (set_blk (set_blk (set_blk h 0 v0) 1 v1) 2 v2) 2, cell_of_blk (set_blk (set_blk (set_blk (set_blk h 0 v0) 1 v1) 2 v2) 3 v3) 3⟩
theorem below_set4 {B s : Nat} {a w : World} (h : Below B a w) (hs : B ≤ s) (v0 v1 v2 v3 : Value) : Below B a ((((w.setCell ⟨s, 0, none⟩ v0).setCell ⟨s, 1, none⟩ v1).setCell ⟨s, 2, none⟩ v2).setCell ⟨s, 3, none⟩ v3) :=
  (((h.setCell (p := ⟨s, 0, none⟩) hs _).setCell (p := ⟨s, 1, none⟩) hs _).setCell (p := ⟨s, 2, none⟩) hs _).setCell (p := ⟨s, 3, none⟩) hs _
def ndAns : Option Nd → Value
  | some nd => .tuple #[vN nd, .bool true]
  | none => .tuple #[vN ⟨0, 0, 0, 0⟩, .bool false]

set_option maxHeartbeats 1000000 in
theorem node_any (b off n c : Nat) (ea : Option Addr) (en ec : Nat) (zs : List Nd) (id : Int) (w : World) (hbig : n ≤ 1000000000) (hn : zs.length = n) (r : Option Nd) (hr : zs.find? (fun n => n.id == id) = r) (hc : CellsN w b off zs) :
    Calls Tryz.prog 98 #[.agg #[.slice (some ⟨b, off, none⟩) n c, .slice ea en ec], .int .i64 id] w fun e w' => e = .returned (ndAns r) ∧ Below w.heap.size w w' := by
  have HC := Lib.hid hc
  clear hc
  have HN := Lib.hid hn
  obtain ⟨k, hk⟩ : ∃ k, idx (fun n => n.id == id) zs = k := ⟨_, rfl⟩
  have HK := Lib.hid hk
  have HR := Lib.hid hr
  clear hn hk hr
  go_enter Tryz.func98, Tryz.ntmps98
  go_wp2_with fail
  have hb0 : Below w.heap.size w (((w.alloc (.cells #[.slice (some ⟨b, off, none⟩) n c, .slice ea en ec] 25)).alloc (.cells #[.int .i64 id] 3)).alloc (.cells #[.int .i64 0, .int .i64 0, .int .i64 0, .int .i64 0] 29)) := (((Below.refl _ _).alloc (Nat.le_refl _) _).alloc (by simp) _).alloc (by simp; omega) _
  have hcall := indexN (fun n => n.id == id) 175 #[.pointer (some ⟨w.heap.size + 1, 0, none⟩)] Tryz.call175 b off c zs _ (nodeId_pred id ⟨w.heap.size + 1, 0, none⟩ _ (cell_of_blk (c := #[.int .i64 id]) (e := 3) (alloc_blk _ (by have := heap_alloc_new (w.alloc (.cells #[.slice (some ⟨b, off, none⟩) n c, .slice ea en ec] 25)) (.cells #[.int .i64 id] 3); simpa using this)) 0)) (by rw [HN.out]; exact hbig) (HC.out.below hb0)
  rw [HN.out, HK.out] at hcall
  refine hcall.mono ?_
  rintro e w1 ⟨rfl, hb1⟩
  have hp : w1.heap[w.heap.size]? = some (.cells #[.slice (some ⟨b, off, none⟩) n c, .slice ea en ec] 25 (0, 0)) := (hb1.block _ (by simp; omega)).trans (alloc_blk _ (alloc_blk _ (heap_alloc_new w _)))
  have hr : w1.heap[w.heap.size + 1 + 1]? = some (.cells #[.int .i64 0, .int .i64 0, .int .i64 0, .int .i64 0] 29 (0, 0)) := (hb1.block _ (by simp)).trans (by have := heap_alloc_new ((w.alloc (.cells #[.slice (some ⟨b, off, none⟩) n c, .slice ea en ec] 25)).alloc (.cells #[.int .i64 id] 3)) (.cells #[.int .i64 0, .int .i64 0, .int .i64 0, .int .i64 0] 29); simpa using this)
  have a1 : w1.cell? ⟨w.heap.size, 0, none⟩ = some (.slice (some ⟨b, off, none⟩) n c) := cell_of_blk hp 0
  have e1 : w1.cell? ⟨w.heap.size + 1 + 1, 0, none⟩ = some (.int .i64 0) := cell_of_blk hr 0
  have e2 : w1.cell? ⟨w.heap.size + 1 + 1, 1, none⟩ = some (.int .i64 0) := cell_of_blk hr 1
  have e3 : w1.cell? ⟨w.heap.size + 1 + 1, 2, none⟩ = some (.int .i64 0) := cell_of_blk hr 2
  have e4 : w1.cell? ⟨w.heap.size + 1 + 1, 3, none⟩ = some (.int .i64 0) := cell_of_blk hr 3
  have f1 := frozen_of_blk hr 0
  have f2 := frozen_of_blk hr 1
  have f3 := frozen_of_blk hr 2
  have f4 := frozen_of_blk hr 3
  have HP : Aside (w1.heap[w.heap.size + 1 + 1]? = some (.cells #[.int .i64 0, .int .i64 0, .int .i64 0, .int .i64 0] 29 (0, 0))) := hr
  have HB : Aside (Below w.heap.size w w1) := hb0.trans (hb1.mono (by simp; omega))
  have HC1 := Lib.hid ((HC.out.below hb0).below hb1)
  clear hb0 hb1 hp hr hcall HC
  cases r with
  | none =>
    have hk : k < 0 := by rw [← HK.out]; exact (idx_none _ _).2 HR.out
    clear HK HR HC1 HN
    obtain ⟨k1, k2, k3, k4⟩ := set4 HP.out (.int .i64 0) (.int .i64 0) (.int .i64 0) (.int .i64 0)
    go_wp2_with fail
    refine bodyPost_ret ?_ rfl ⟨rfl, ?_⟩
    · simp [results, Tryz.results98, go_sem, k1, k2, k3, k4]
      rfl
    · exact below_set4 HB.out (by omega) _ _ _ _
  | some nd =>
    have hk := idx_some _ _ _ HR.out
    rw [HK.out] at hk
    obtain ⟨hk0, hk1⟩ := hk
    have hk2 : k < n := by have := (idx_range (fun n => n.id == id) zs).2; rw [HK.out, HN.out] at this; exact this
    obtain ⟨kk, rfl⟩ := Int.eq_ofNat_of_zero_le hk0
    have hkk : kk < n := by omega
    obtain ⟨c0, c1, c2, c3⟩ := HC1.out kk (by rw [HN.out]; exact hkk)
    simp only [Int.toNat_natCast] at hk1
    rw [hk1] at c0 c1 c2 c3
    clear hk0 HK HR HC1 HN hk1
    obtain ⟨k1, k2, k3, k4⟩ := set4 HP.out (.int .i64 nd.id) (.int .i64 nd.x) (.int .i64 nd.y) (.int .i64 nd.face)
    go_wp2_with fail
    refine bodyPost_ret ?_ rfl ⟨rfl, ?_⟩
    · simp [results, Tryz.results98, go_sem, k1, k2, k3, k4]
      rfl
    · exact below_set4 HB.out (by omega) _ _ _ _

set_option maxHeartbeats 1000000 in
theorem isolated_one (b c : Nat) (nd : Nd) (w : World) (hc : CellsN w b 0 [nd]) :
    Calls Tryz.prog 71 #[.agg #[.slice (some ⟨b, 0, none⟩) 1 c, .slice none 0 0], .int .i64 nd.id] w fun e w' => e = .returned (.bool true) ∧ Below w.heap.size w w' := by
  obtain ⟨id, x, y, fa⟩ := nd
  have HC := Lib.hid hc
  clear hc
  go_enter Tryz.func71, Tryz.ntmps71
  go_wp2_with fail
  refine (node_any b 0 1 c none 0 0 [⟨id, x, y, fa⟩] id _ (by simp) rfl (some ⟨id, x, y, fa⟩) (by simp) (HC.out.below ((((Below.refl w.heap.size w).alloc (Nat.le_refl _) _).alloc (by simp) _)))).mono ?_
  rintro e w1 ⟨rfl, hb1⟩
  simp only [ndAns, vN]
  have hp : w1.heap[w.heap.size]? = some (.cells #[.slice (some ⟨b, 0, none⟩) 1 c, .slice none 0 0] 25 (0, 0)) := (hb1.block _ (by simp; omega)).trans (alloc_blk _ (heap_alloc_new w _))
  have a1 : w1.cell? ⟨w.heap.size, 1, none⟩ = some (.slice none 0 0) := cell_of_blk hp 1
  have HB : Aside (Below w.heap.size w w1) := (((Below.refl _ _).alloc (Nat.le_refl _) _).alloc (by simp) _).trans (hb1.mono (by simp; omega))
  have hz := World.block_lt_of_cell? _ _ a1
  simp only at hz
  clear hb1 hp
  go_wp2_with fail
  refine (containsE_nil _ _ _ _).mono ?_
  rintro e w2 ⟨rfl, rfl⟩
  go_wp2_with fail
  go_ret
  exact ⟨rfl, HB.out.alloc (by omega) _⟩

set_option maxHeartbeats 2000000 in
theorem awake_true (faceAt : ∀ (q : Pt) (w : World), Calls Tryz.prog 62 #[.agg #[.slice none 0 0, .slice none 0 0], vP q] w fun e w' => e = .returned (.int .i64 0) ∧ Below w.heap.size w w') (w : World) :
    Calls Tryz.prog 24 #[] w fun e w' => e = .returned (.bool true) ∧ Below w.heap.size w w' := by
  have HF := Lib.hid faceAt
  clear faceAt
  go_enter Tryz.func24, Tryz.ntmps24
  go_wp2_with fail
  refine (addNode_nil HF.out ⟨1, 1⟩ rfl _).mono ?_
  rintro e w1 ⟨⟨b, c, rfl, hC⟩, hb1⟩
  obtain ⟨c0, c1, c2, c3⟩ := hC 0 (by simp)
  simp only [Nat.zero_mul, Nat.zero_add] at c0 c1 c2 c3
  have HC := Lib.hid hC
  have HB1 : Aside (Below w.heap.size w w1) := hb1
  have hz := hb1.size
  have hlt := World.block_lt_of_cell? _ _ c0
  simp at hlt c0 c1 c2 c3
  clear hC hb1
  go_wp2_with fail
  have hd : CellsI ((w1.alloc (.cells #[.slice (some ⟨b, 0, none⟩) 1 c, .slice none 0 0] 25)).alloc (.cells #[.int .i64 1, .int .i64 3] 3)) (w1.heap.size + 1) 0 [1, 3] := by
    have h := heap_alloc_new (w1.alloc (.cells #[.slice (some ⟨b, 0, none⟩) 1 c, .slice none 0 0] 25)) (.cells #[.int .i64 1, .int .i64 3] 3)
    rw [World.size_alloc] at h
    intro j hj
    rcases j with _ | _ | j
    · exact cell_of_blk h 0
    · exact cell_of_blk h 1
    · simp at hj; omega
  refine (unused_any (w1.heap.size + 1) 0 2 [1, 3] _ (by simp) hd).mono ?_
  rintro e w2 ⟨⟨r, rfl, hr⟩, hb2⟩
  have hr2 : r = 2 := IsLeast.eq hr ⟨by omega, by decide, fun m h1 h2 => by have : m = 1 := by omega
                                                                            subst this; simp⟩
  subst hr2
  have hp : w2.heap[w1.heap.size]? = some (.cells #[.slice (some ⟨b, 0, none⟩) 1 c, .slice none 0 0] 25 (0, 0)) := (hb2.block _ (by simp; omega)).trans (alloc_blk _ (heap_alloc_new w1 _))
  have a1 : w2.cell? ⟨w1.heap.size, 0, none⟩ = some (.slice (some ⟨b, 0, none⟩) 1 c) := cell_of_blk hp 0
  have a2 : w2.cell? ⟨w1.heap.size, 1, none⟩ = some (.slice none 0 0) := cell_of_blk hp 1
  have hb12 : Below w1.heap.size w1 w2 := (((Below.refl _ _).alloc (Nat.le_refl _) _).alloc (by simp) _).trans (hb2.mono (by simp; omega))
  have HB2 : Aside (Below w.heap.size w w2) := below_then HB1.out hz hb12
  have HC2 := Lib.hid (HC.out.below hb12)
  have hz2 : w.heap.size ≤ w2.heap.size := by have := hb12.size; omega
  clear hr hd hb2 hp hb12 c0 c1 c2 c3 HB1 HC
  go_wp2_with fail
  refine (isolated_one b c ⟨1, 1, 1, 0⟩ _ HC2.out).mono ?_
  rintro e w3 ⟨rfl, hb3⟩
  have HB3 : Aside (Below w.heap.size w w3) := below_then HB2.out hz2 hb3
  clear hb3
  go_wp2_with fail
  go_ret
  exact ⟨rfl, HB3.out⟩

set_option maxHeartbeats 400000 in
theorem refUnused_nil (a : Option Addr) (c : Nat) (w : World) :
    Calls Tryz.prog 26 #[.slice a 0 c, .int .i64 0, .int .i64 0] w fun e w' => e = .returned (.int .i64 1) ∧ w = w' := by
  go_enter Tryz.func26, Tryz.ntmps26
  go_wp2
  refine wp_loop_rounds 1 ?_
  rw [rounds_succ]
  go_wp2_with fail
  refine (has_nil _ _ _ _).mono ?_
  rintro e w' ⟨rfl, rfl⟩
  go_wp2
  go_ret
  exact ⟨rfl, rfl⟩

set_option maxHeartbeats 1000000 in
theorem topoUnused_true (faceAt : ∀ (q : Pt) (w : World), Calls Tryz.prog 62 #[.agg #[.slice none 0 0, .slice none 0 0], vP q] w fun e w' => e = .returned (.int .i64 0) ∧ Below w.heap.size w w')
    (w : World) (n c : Nat) (a : Option Addr) (xs : List Int) (hn : xs.length = n) (hx : 0 < n → ∃ b off, a = some ⟨b, off, none⟩ ∧ CellsI w b off xs) :
    Calls Tryz.prog 6 #[.slice a n c] w fun e w' => e = .returned (.bool true) ∧ Below w.heap.size w w' := by
  have HF := Lib.hid faceAt
  have HX := Lib.hid hx
  have HN := Lib.hid hn
  clear faceAt hx hn
  by_cases hbig : 200 < n
  · have hbz : (200 : Int) < (n : Int) := by omega
    go_enter Tryz.func6, Tryz.ntmps6
    go_wp2_with fail
    refine (awake_true HF.out _).mono ?_
    rintro e w1 ⟨rfl, hb1⟩
    go_wp2_with fail
    go_ret
    exact ⟨rfl, hb1⟩
  · have hbz : ¬ (200 : Int) < (n : Int) := by omega
    have hun : Calls Tryz.prog 25 #[.slice a n c] w fun e w' => (∃ r, e = .returned (.int .i64 r) ∧ IsLeast xs r) ∧ Below w.heap.size w w' := by
      by_cases hz : n = 0
      · subst hz
        rw [List.eq_nil_of_length_eq_zero HN.out]
        exact (unused_nil _ _ _).mono fun _ _ ⟨h, h'⟩ => ⟨⟨1, h, by omega, by simp, fun m h1 h2 => by omega⟩, h'⟩
      · obtain ⟨b, off, rfl, h2⟩ := HX.out (by omega)
        rw [← HN.out]
        exact unused_any b off c xs w (by have := HN.out; omega) h2
    have href : ∀ w1, Below w.heap.size w w1 → Calls Tryz.prog 26 #[.slice a n c, .int .i64 0, .int .i64 0] w1 fun e w' => (∃ r, e = .returned (.int .i64 r) ∧ IsLeast xs r) ∧ w1 = w' := by
      intro w1 hb
      by_cases hz : n = 0
      · subst hz
        rw [List.eq_nil_of_length_eq_zero HN.out]
        exact (refUnused_nil _ _ _).mono fun _ _ ⟨h, h'⟩ => ⟨⟨1, h, by omega, by simp, fun m h1 h2 => by omega⟩, h'⟩
      · obtain ⟨b, off, rfl, h2⟩ := HX.out (by omega)
        rw [← HN.out]
        exact refUnused_any _ xs w1 (by have := HN.out; omega) (.inr ⟨b, off, c, rfl, h2.below hb⟩)
    have HU := Lib.hid hun
    have HR := Lib.hid href
    clear hun href HX HN
    go_enter Tryz.func6, Tryz.ntmps6
    go_wp2_with fail
    refine HU.out.mono ?_
    rintro e w1 ⟨⟨r, rfl, hr⟩, hb1⟩
    have HB1 : Aside (Below w.heap.size w w1) := hb1
    have HL := Lib.hid hr
    clear hb1 hr
    go_wp2_with fail
    refine (HR.out w1 HB1.out).mono ?_
    rintro e w2 ⟨⟨s, rfl, hs⟩, rfl⟩
    have hrs : r = s := HL.out.eq hs
    subst hrs
    clear hs
    go_wp2_with fail
    refine (awake_true HF.out _).mono ?_
    rintro e w2 ⟨rfl, hb2⟩
    go_wp2_with fail
    go_ret
    exact ⟨rfl, below_then HB1.out HB1.out.size hb2⟩
end Go.Proofs.YtnpfoicniodobaaGreat
