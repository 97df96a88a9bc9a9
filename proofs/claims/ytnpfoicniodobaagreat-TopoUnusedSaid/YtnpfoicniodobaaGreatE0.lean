/- Plans without edges: what plan.Of, its parts and rings are there. -/
import Derived.Test.YtnpfoicniodobaaGreatCp
import Derived.Test.YtnpfoicniodobaaGreatTr
import Derived.Test.YtnpfoicniodobaaGreatShelf
import Derived.Test.YtnpfoicniodobaaGreatMr
import Derived.Test.YtnpfoicniodobaaGreatAp
namespace Go.Proofs.YtnpfoicniodobaaGreat
open Go.RowKit

set_option maxHeartbeats 400000 in
theorem insertionSort0 (a : Option Addr) (c : Nat) (f : Value) (w : World) :
    Calls Tryz.prog 256 #[.slice a 0 c, .int .i64 0, .int .i64 0, f] w fun e w' => e = .returned (.tuple #[]) ∧ w = w' := by
  go_enter Tryz.func256, Tryz.ntmps256
  go_wp2
  refine wp_loop_rounds 1 ?_
  rw [rounds_succ]
  go_wp2
  go_end0
  exact ⟨rfl, rfl⟩

set_option maxHeartbeats 400000 in
theorem pdq0 (a : Option Addr) (c : Nat) (f : Value) (k : Int) (w : World) :
    Calls Tryz.prog 215 #[.slice a 0 c, .int .i64 0, .int .i64 0, .int .i64 k, f] w fun e w' => e = .returned (.tuple #[]) ∧ w = w' := by
  go_enter Tryz.func215, Tryz.ntmps215
  go_wp2
  refine wp_loop_rounds 1 ?_
  rw [rounds_succ]
  go_wp2_with fail
  refine (insertionSort0 _ _ _ _).mono ?_
  rintro e w' ⟨rfl, rfl⟩
  go_wp2_with fail
  exact bodyPost_ret (v := .tuple #[]) (by simp [results, Tryz.results215, go_sem]) rfl ⟨rfl, rfl⟩

set_option maxHeartbeats 400000 in
theorem sortFunc0 (a : Option Addr) (c : Nat) (f : Value) (w : World) :
    Calls Tryz.prog 159 #[.slice a 0 c, f] w fun e w' => e = .returned (.tuple #[]) ∧ w = w' := by
  go_enter Tryz.func159, Tryz.ntmps159
  go_wp2_with fail
  refine (Tryz.bits_Len _ _ (by omega) (by omega)).mono ?_
  rintro e w' ⟨rfl, rfl⟩
  go_wp2_with fail
  refine (pdq0 _ _ _ _ _).mono ?_
  rintro e w' ⟨rfl, rfl⟩
  go_wp2_with fail
  go_end0
  exact ⟨rfl, rfl⟩

/-- A Walk of a plan without edges. -/
structure Walk0 (w : World) (b : Nat) : Prop where
  blk : ∃ m1 m2, w.heap[b]? = some (.cells #[.map (some m1), .slice none 0 0, .map (some m2)] 188 (0, 0)) ∧ MapI w m1 [] ∧ MapI w m2 []

set_option maxHeartbeats 1000000 in
theorem of0 (nv : Value) (w : World) :
    Calls Tryz.prog 83 #[.agg #[nv, .slice none 0 0]] w fun e w' => (∃ b, e = .returned (.pointer (some ⟨b, 0, none⟩)) ∧ Walk0 w' b) ∧ Below w.heap.size w w' := by
  have hmm := @run_makeMap Tryz.prog
  go_enter Tryz.func83, Tryz.ntmps83
  go_wp2
  refine wp_loop_rounds 1 ?_
  rw [rounds_succ]
  go_wp2_with fail
  refine (sortFunc0 _ _ _ _).mono ?_
  rintro e w' ⟨rfl, rfl⟩
  go_wp2_with fail
  refine wp_loop_rounds 1 ?_
  rw [rounds_succ]
  go_wp2_with (at_range; refine wp_range rfl _ _ rfl _ _ Tryz.underlying186 _ [] rfl ?hm (by simp) ?_)
  case hm => exact (MapI.new' _ _ (by simp)).alloc _
  intro w' hr hg hs
  have H1 : Aside (MapI w' (w.heap.size + 1) []) := (((MapI.new' _ _ (by simp)).alloc _).alloc _).kept hg (by simp)
  have h2 : RangI w' (w.heap.size + 1 + 1) (w.heap.size + 1 + 1 + 1 + 1) [] [] := by simpa using hr
  have H2 : Aside (RangI w' (w.heap.size + 1 + 1) (w.heap.size + 1 + 1 + 1 + 1) [] []) := h2
  have h3 : w'.heap[w.heap.size + 1 + 1 + 1]? = some (.cells #[.map (some (w.heap.size + 1)), .slice none 0 0, .map (some (w.heap.size + 1 + 1))] 188 (0, 0)) := by
    have := hg.block (w.heap.size + 1 + 1 + 1) (by simp) (by simp)
    rw [show w'.heap[w.heap.size + 1 + 1 + 1]? = _ from this]
    have h := heap_alloc_new (((w.alloc (Obj.cells #[nv, Value.slice none 0 0] 25)).alloc (Obj.map #[] 0)).alloc (Obj.map #[] 0)) (Obj.cells #[Value.map (some (w.heap.size + 1)), Value.slice none 0 0, Value.map (some (w.heap.size + 1 + 1))] 188)
    simpa using h
  have H3 : Aside (w'.heap[w.heap.size + 1 + 1 + 1]? = some (.cells #[.map (some (w.heap.size + 1)), .slice none 0 0, .map (some (w.heap.size + 1 + 1))] 188 (0, 0))) := h3
  have H4 : Aside (Below w.heap.size w w') := (((((Below.refl _ _).alloc (Nat.le_refl _) _).alloc (by simp) _).alloc (by simp <;> omega) _).alloc (by simp <;> omega) _).grown hg (by simp; omega) (fun k hk => by cases hk)
  clear hr hg hs h2 h3
  go_wp2_with fail
  refine wp_loop_rounds 1 ?_
  rw [rounds_succ]
  go_wp2_with (at_next; refine wp_next rfl _ rfl _ _ _ _ rfl H2.out (by simp) ?_ ?_)
  go_ret
  exact ⟨⟨_, rfl, ⟨_, _, H3.out, H1.out, H2.out.map⟩⟩, H4.out⟩

theorem Walk0.below {w w' : World} {b : Nat} (h : Walk0 w b) (hb : Below w.heap.size w w') : Walk0 w' b := by
  obtain ⟨m1, m2, h1, h2, h3⟩ := h.blk
  exact ⟨m1, m2, (hb.block b (Array.getElem?_eq_some_iff.1 h1).1).trans h1, h2.below hb, h3.below hb⟩
theorem Walk0.ways {w : World} {b : Nat} (h : Walk0 w b) : w.cell? ⟨b, 1, none⟩ = some (.slice none 0 0) := by
  obtain ⟨m1, m2, h1, _, _⟩ := h.blk
  simp [World.cell?, h1]

set_option maxHeartbeats 400000 in
theorem ways0 (b : Nat) (w : World) (h : Walk0 w b) :
    Calls Tryz.prog 200 #[.pointer (some ⟨b, 0, none⟩)] w fun e w' => e = .returned (.slice none 0 0) ∧ w = w' := by
  have hc := h.ways
  go_enter Tryz.func200, Tryz.ntmps200
  go_wp2_with fail
  refine (cloneI_nil _).mono ?_
  rintro e w' ⟨rfl, rfl⟩
  go_wp2_with fail
  refine (clipI_nil _).mono ?_
  rintro e w' ⟨rfl, rfl⟩
  go_wp2_with fail
  go_ret
  exact ⟨rfl, rfl⟩

set_option maxHeartbeats 400000 in
theorem parts0 (b : Nat) (w : World) (h : Walk0 w b) :
    Calls Tryz.prog 141 #[.pointer (some ⟨b, 0, none⟩)] w fun e w' => (∃ m, e = .returned (.map (some m)) ∧ MapI w' m []) ∧ Below w.heap.size w w' := by
  have H := Lib.hid h
  clear h
  have hmm := @run_makeMap Tryz.prog
  go_enter Tryz.func141, Tryz.ntmps141
  go_wp2_with fail
  refine (ways0 _ _ (H.out.below ((Below.refl _ _).alloc (Nat.le_refl _) _))).mono ?_
  rintro e w' ⟨rfl, rfl⟩
  go_wp2_with fail
  refine wp_loop_rounds 1 ?_
  rw [rounds_succ]
  go_wp2_with fail
  go_ret
  exact ⟨⟨_, rfl, MapI.new _⟩, (Below.refl _ _).alloc (Nat.le_refl _) _⟩

set_option maxHeartbeats 400000 in
theorem rings0 (b : Nat) (w : World) (h : Walk0 w b) :
    Calls Tryz.prog 142 #[.pointer (some ⟨b, 0, none⟩)] w fun e w' => e = .returned (.slice none 0 0) ∧ Below w.heap.size w w' := by
  have hc := (h.below ((Below.refl _ _).alloc (Nat.le_refl _) (.map #[] 0))).ways
  have hmm := @run_makeMap Tryz.prog
  go_enter Tryz.func142, Tryz.ntmps142
  go_wp2_with fail
  refine wp_loop_rounds 1 ?_
  rw [rounds_succ]
  go_wp2_with fail
  refine (clipL_nil _).mono ?_
  rintro e w' ⟨rfl, rfl⟩
  go_wp2_with fail
  go_ret
  exact ⟨rfl, (Below.refl _ _).alloc (Nat.le_refl _) _⟩
end Go.Proofs.YtnpfoicniodobaaGreat
