/- The empty plan: a node is put into it. -/
import Derived.Test.YtnpfoicniodobaaGreatE0
import Derived.Test.YtnpfoicniodobaaGreatCp
import Derived.Test.YtnpfoicniodobaaGreatTu
import Derived.Deep.RegionHeld3
import Derived.Deep.DeepCutAuto
import Derived.BigRegion
import Derived.Deep.RegionLaw
namespace Go.Proofs.YtnpfoicniodobaaGreat
open Go.RowKit
theorem infoN : (Tryz.prog.info? 29).map (fun i => (i.zero, i.size, i.bytes)) = some (some (.agg #[.int .i64 0, .int .i64 0, .int .i64 0, .int .i64 0]), 4, 32) := by kernel_rfl

set_option maxHeartbeats 1000000 in
theorem copy0_nil (w : World) :
    Calls Tryz.prog 121 #[.agg #[.slice none 0 0, .slice none 0 0]] w fun e w' => e = .returned (.agg #[.slice none 0 0, .slice none 0 0]) ∧ Below w.heap.size w w' := by
  go_enter Tryz.func121, Tryz.ntmps121
  go_wp2_with fail
  go_region_held3 (fun w' => w'.cell? ⟨w.heap.size, 0, none⟩ = some (.slice none 0 0) ∧ w'.cell? ⟨w.heap.size, 1, none⟩ = some (.slice none 0 0))
    (first | go_keep | trivial)
    (first
      | (go_at_call 193; refine (cloneN_nil _).mono ?_; rintro e w4 ⟨rfl, rfl⟩)
      | (go_at_call 194; refine (cloneE_nil _).mono ?_; rintro e w4 ⟨rfl, rfl⟩)
      | (go_at_call 122; refine (clipE_nil _).mono ?_; rintro e w4 ⟨rfl, rfl⟩)
      | (go_at_call 125; refine (clipN_nil _).mono ?_; rintro e w4 ⟨rfl, rfl⟩))
  all_goals
    go_wp2_with fail
    refine wp_loop_rounds 1 ?_
    rw [rounds_succ]
    go_wp2
    refine bodyPost_ret ?_ rfl ⟨rfl, ?_⟩
    · simp [results, Tryz.results121, go_sem]
    · exact ((((Below.refl _ _).alloc (Nat.le_refl _) _).alloc (by simp) _).alloc (by simp; omega) _).drew

set_option maxHeartbeats 1000000 in
theorem bsearch_nil (f : Value) (id : Int) (w : World) :
    Calls Tryz.prog 149 #[.slice none 0 0, .int .i64 id, f] w fun e w' => e = .returned (.tuple #[.int .i64 0, .bool false]) ∧ w = w' := by
  go_enter Tryz.func149, Tryz.ntmps149
  go_wp2
  refine wp_loop_rounds 1 ?_
  rw [rounds_succ]
  go_wp2
  refine bodyPost_ret ?_ rfl ⟨rfl, rfl⟩
  simp [results, Tryz.results149, go_sem]

set_option maxHeartbeats 1000000 in
theorem insert_nil (nd : Nd) (bk : Nat) (w : World) (hc : CellsN w bk 0 [nd]) :
    Calls Tryz.prog 151 #[.slice none 0 0, .int .i64 0, .slice (some ⟨bk, 0, none⟩) 1 1] w fun e w' => (∃ b c, e = .returned (.slice (some ⟨b, 0, none⟩) 1 c) ∧ 1 ≤ c ∧ w.heap.size ≤ b ∧ CellsN w' b 0 [nd]) ∧ Below w.heap.size w w' := by
  go_enter Tryz.func151, Tryz.ntmps151
  go_wp2_with (at_builtin; refine wp_apps w.heap.size rfl _ _ 22 29 _ 4 32 rfl Tryz.underlying22 infoN rfl (by decide) (by decide) _ 0 [] 1 1 _ [.int .i64 nd.id, .int .i64 nd.x, .int .i64 nd.y, .int .i64 nd.face] rfl rfl rfl ?c1 ?cn (World.ownsRow_nil _ _ _ _) (Nat.le_refl _) (by decide) ?_)
  case c1 => simp [Value.oneCell']
  case cn =>
    intro j u hj
    have hc0 := hc 0 (by simp)
    simp at hc0
    rcases j with _ | _ | _ | _ | j <;> simp at hj <;> subst hj <;> simp [Addr.add, hc0]
  intro v1 w1 hap hnil
  go_wp2_with fail
  go_ret
  refine ⟨?_, hap.below (World.ownsRow_nil _ _ _ _) (Nat.le_refl _) (Below.refl _ _) (Nat.le_refl _)⟩
  rcases own_form hap.own with ⟨_, h⟩ | ⟨b, c, rfl, hb0, _, hc1, h⟩
  · simp at h
  · refine ⟨b, c, rfl, hc1, hb0, fun j hj => ?_⟩
    have : j = 0 := by simpa using hj
    subst this
    exact ⟨h 0 _ rfl, h 1 _ rfl, h 2 _ rfl, h 3 _ rfl⟩

theorem cellsN_new (W : World) (k : Nat) (hk : k = W.heap.size) (nd : Nd) (T : TypeId) : CellsN (W.alloc (.cells #[.int .i64 nd.id, .int .i64 nd.x, .int .i64 nd.y, .int .i64 nd.face] T)) k 0 [nd] := by
  subst hk
  intro j hj
  have : j = 0 := by simpa using hj
  subst this
  have h := heap_alloc_new W (.cells #[.int .i64 nd.id, .int .i64 nd.x, .int .i64 nd.y, .int .i64 nd.face] T)
  exact ⟨cell_of_blk h 0, cell_of_blk h 1, cell_of_blk h 2, cell_of_blk h 3⟩

theorem CellsN.set {w : World} {b off : Nat} {zs : List Nd} (h : CellsN w b off zs) {a : Addr} (hne : b ≠ a.block) (v : Value) : CellsN (w.setCell a v) b off zs := fun j hj => by
  obtain ⟨h1, h2, h3, h4⟩ := h j hj
  have hk : ∀ o, (w.setCell a v).cell? ⟨b, o, none⟩ = w.cell? ⟨b, o, none⟩ := fun o => World.cell?_of_block (w := w) (Below.heap_setCell w a v b hne)
  exact ⟨(hk _).trans h1, (hk _).trans h2, (hk _).trans h3, (hk _).trans h4⟩

set_option maxHeartbeats 1000000 in
theorem withNode_nil (nd : Nd) (w : World) :
    Calls Tryz.prog 74 #[.agg #[.slice none 0 0, .slice none 0 0], vN nd] w fun e w' => (∃ b c, e = .returned (.agg #[.slice (some ⟨b, 0, none⟩) 1 c, .slice none 0 0]) ∧ w.heap.size ≤ b ∧ CellsN w' b 0 [nd]) ∧ Below w.heap.size w w' := by
  obtain ⟨id, x, y, fa⟩ := nd
  simp only [vN]
  go_enter Tryz.func74, Tryz.ntmps74
  go_wp2_with fail
  refine (copy0_nil _).mono ?_
  rintro e w1 ⟨rfl, hb1⟩
  have hz1 : w.heap.size + 3 ≤ w1.heap.size := by have := hb1.size; simp at this; omega
  have hp : w1.heap[w.heap.size]? = some (.cells #[.slice none 0 0, .slice none 0 0] 25 (0, 0)) := (hb1.block _ (by simp; omega)).trans (alloc_blk _ (alloc_blk _ (heap_alloc_new w _)))
  have hq : w1.heap[w.heap.size + 1]? = some (.cells #[.int .i64 id, .int .i64 x, .int .i64 y, .int .i64 fa] 29 (0, 0)) := (hb1.block _ (by simp)).trans (alloc_blk _ (by have := heap_alloc_new (w.alloc (.cells #[.slice none 0 0, .slice none 0 0] 25)) (.cells #[.int .i64 id, .int .i64 x, .int .i64 y, .int .i64 fa] 29); simpa using this))
  have hr : w1.heap[w.heap.size + 1 + 1]? = some (.cells #[.slice none 0 0, .slice none 0 0] 25 (0, 0)) := (hb1.block _ (by simp)).trans (by have := heap_alloc_new ((w.alloc (.cells #[.slice none 0 0, .slice none 0 0] 25)).alloc (.cells #[.int .i64 id, .int .i64 x, .int .i64 y, .int .i64 fa] 29)) (.cells #[.slice none 0 0, .slice none 0 0] 25); simpa using this)
  have a1 : w1.cell? ⟨w.heap.size, 0, none⟩ = some (.slice none 0 0) := cell_of_blk hp 0
  have a2 : w1.cell? ⟨w.heap.size, 1, none⟩ = some (.slice none 0 0) := cell_of_blk hp 1
  have f1 := frozen_of_blk hp 0
  have f2 := frozen_of_blk hp 1
  have c0 : w1.cell? ⟨w.heap.size + 1, 0, none⟩ = some (.int .i64 id) := cell_of_blk hq 0
  have c1 : w1.cell? ⟨w.heap.size + 1, 1, none⟩ = some (.int .i64 x) := cell_of_blk hq 1
  have c2 : w1.cell? ⟨w.heap.size + 1, 2, none⟩ = some (.int .i64 y) := cell_of_blk hq 2
  have c3 : w1.cell? ⟨w.heap.size + 1, 3, none⟩ = some (.int .i64 fa) := cell_of_blk hq 3
  have HP : Aside (w1.heap[w.heap.size]? = some (.cells #[.slice none 0 0, .slice none 0 0] 25 (0, 0))) := hp
  have HR : Aside (w1.heap[w.heap.size + 1 + 1]? = some (.cells #[.slice none 0 0, .slice none 0 0] 25 (0, 0))) := hr
  have HB : Aside (Below w.heap.size w w1) := ((((Below.refl _ _).alloc (Nat.le_refl _) _).alloc (by simp) _).alloc (by simp; omega) _).trans (hb1.mono (by simp; omega))
  clear hb1 hp hq hr
  go_wp2_with fail
  refine (bsearch_nil _ _ _).mono ?_
  rintro e w2 ⟨rfl, rfl⟩
  go_wp2_with fail
  refine (insert_nil ⟨id, x, y, fa⟩ _ _ (cellsN_new _ _ (by simp) ⟨id, x, y, fa⟩ _)).mono ?_
  rintro e w2 ⟨⟨b, c, rfl, hle, hbb, hC⟩, hb2⟩
  have hne1 : b ≠ w.heap.size := by simp at hbb; omega
  have hne2 : b ≠ w.heap.size + 1 + 1 := by simp at hbb; omega
  have hp2 := below_blk hb2 (alloc_blk (.cells #[.int .i64 id, .int .i64 x, .int .i64 y, .int .i64 fa] 29) (set_blk (set_blk HP.out 0 (.slice none 0 0)) 1 (.slice none 0 0)))
  have hr2 := below_blk hb2 (alloc_blk (.cells #[.int .i64 id, .int .i64 x, .int .i64 y, .int .i64 fa] 29) (set_blk_other (a := ⟨w.heap.size, 1, none⟩) (v := .slice none 0 0) (set_blk_other (a := ⟨w.heap.size, 0, none⟩) (v := .slice none 0 0) HR.out (by simp; omega)) (by simp; omega)))
  have a1 : w2.cell? ⟨w.heap.size, 0, none⟩ = some (.slice none 0 0) := cell_of_blk hp2 0
  have a2 : w2.cell? ⟨w.heap.size, 1, none⟩ = some (.slice none 0 0) := cell_of_blk hp2 1
  have f1 := frozen_of_blk hp2 0
  have f2 := frozen_of_blk hp2 1
  have d1 : w2.cell? ⟨w.heap.size + 1 + 1, 0, none⟩ = some (.slice none 0 0) := cell_of_blk hr2 0
  have d2 : w2.cell? ⟨w.heap.size + 1 + 1, 1, none⟩ = some (.slice none 0 0) := cell_of_blk hr2 1
  have g1 := frozen_of_blk hr2 0
  have g2 := frozen_of_blk hr2 1
  have HC := Lib.hid hC
  have hlt := (World.block_lt_of_cell? _ _ (hC 0 (by simp)).1)
  have hr3 := set_blk (set_blk_other (a := ⟨w.heap.size, 0, none⟩) (v := .slice (some ⟨b, 0, none⟩) 1 1) hr2 (by simp; omega)) 0 (.slice (some ⟨b, 0, none⟩) 1 1)
  have hr4 := set_blk hr3 1 (.slice none 0 0)
  have k1 : ((w2.setCell ⟨w.heap.size, 0, none⟩ (.slice (some ⟨b, 0, none⟩) 1 1)).setCell ⟨w.heap.size + 1 + 1, 0, none⟩ (.slice (some ⟨b, 0, none⟩) 1 1)).cell? ⟨w.heap.size + 1 + 1, 0, none⟩ = some (.slice (some ⟨b, 0, none⟩) 1 1) := cell_of_blk hr3 0
  have k2 : (((w2.setCell ⟨w.heap.size, 0, none⟩ (.slice (some ⟨b, 0, none⟩) 1 1)).setCell ⟨w.heap.size + 1 + 1, 0, none⟩ (.slice (some ⟨b, 0, none⟩) 1 1)).setCell ⟨w.heap.size + 1 + 1, 1, none⟩ (.slice none 0 0)).cell? ⟨w.heap.size + 1 + 1, 1, none⟩ = some (.slice none 0 0) := cell_of_blk hr4 1
  have HB2 : Aside (Below w.heap.size w w2) := by
    refine below_then (B := w.heap.size) (w1 := ((w1.setCell ⟨w.heap.size, 0, none⟩ (.slice none 0 0)).setCell ⟨w.heap.size, 1, none⟩ (.slice none 0 0)).alloc _) ?_ (by simp; omega) hb2
    exact ((HB.out.setCell (p := ⟨w.heap.size, 0, none⟩) (Nat.le_refl _) _).setCell (p := ⟨w.heap.size, 1, none⟩) (Nat.le_refl _) _).alloc (by simp; omega) _
  clear hC hp2 hr2 hb2 hr3 hr4
  go_wp2_with fail
  refine (clipN b 0 1 c hle _).mono ?_
  rintro e w3 ⟨rfl, rfl⟩
  go_wp2_with fail
  refine bodyPost_ret ?_ rfl ⟨⟨b, 1, rfl, by simp at hbb; omega, ?_⟩, ?_⟩
  · simp [results, Tryz.results74, go_sem, k1, k2]
  · exact ((HC.out.set (a := ⟨w.heap.size, 0, none⟩) hne1 _).set (a := ⟨w.heap.size + 1 + 1, 0, none⟩) hne2 _).set (a := ⟨w.heap.size + 1 + 1, 1, none⟩) hne2 _
  · exact ((HB2.out.setCell (p := ⟨w.heap.size, 0, none⟩) (Nat.le_refl _) _).setCell (p := ⟨w.heap.size + 1 + 1, 0, none⟩) (by simp; omega) _).setCell (p := ⟨w.heap.size + 1 + 1, 1, none⟩) (by simp; omega) _
end Go.Proofs.YtnpfoicniodobaaGreat
