/- Plans without edges: the face of each point. -/
import Derived.Test.YtnpfoicniodobaaGreatE2
import Derived.Deep.RegionHeld3
import Derived.Deep.DeepCutAuto
import Derived.BigRegion
import Derived.Deep.RegionLaw
namespace Go.Proofs.YtnpfoicniodobaaGreat
open Go.RowKit

/-- A slice of nodes, as a value that lies in memory. -/
def SN (w : World) (v : Value) (zs : List Nd) : Prop := (v = .slice none 0 0 ∧ zs = []) ∨ ∃ b off c, v = .slice (some ⟨b, off, none⟩) zs.length c ∧ CellsN w b off zs
theorem SN.below {w w' : World} {v : Value} {zs : List Nd} (h : SN w v zs) (hb : Below w.heap.size w w') : SN w' v zs := by
  rcases h with h | ⟨b, off, c, h1, h2⟩
  · exact .inl h
  · exact .inr ⟨b, off, c, h1, h2.below hb⟩

set_option maxHeartbeats 400000 in
theorem faceOf0 (pv : Value) (nv ev : Value) (M : Nat) (w : World) (hp : pv = .agg #[nv, ev]) :
    Calls Tryz.prog 68 #[pv, .pointer (some ⟨M, 0, none⟩), .int .i64 0] w fun e w' => e = .returned (.int .i64 0) ∧ Below w.heap.size w w' := by
  subst hp
  go_enter Tryz.func68, Tryz.ntmps68
  go_wp2
  go_ret
  exact ⟨rfl, (Below.refl _ _).alloc (Nat.le_refl _) _⟩

set_option maxHeartbeats 1000000 in
theorem faceAt0 (mapOf : ∀ (nv : Value) (zs : List Nd) (w : World), zs.length ≤ 1000000000 → SN w nv zs → Calls Tryz.prog 67 #[.agg #[nv, .slice none 0 0]] w fun e w' => (∃ M, e = .returned (.pointer (some ⟨M, 0, none⟩)) ∧ Map0 w' M) ∧ Below w.heap.size w w')
    (nv : Value) (zs : List Nd) (q : Pt) (w : World) (hbig : zs.length ≤ 1000000000) (h : SN w nv zs) :
    Calls Tryz.prog 62 #[.agg #[nv, .slice none 0 0], vP q] w fun e w' => e = .returned (.int .i64 0) ∧ Below w.heap.size w w' := by
  obtain ⟨x, y⟩ := q
  have HM := Lib.hid mapOf
  have H := Lib.hid h
  clear mapOf h
  simp only [vP]
  go_enter Tryz.func62, Tryz.ntmps62
  go_wp2_with fail
  refine (HM.out nv zs _ hbig (H.out.below (((Below.refl _ _).alloc (Nat.le_refl _) _).alloc (by simp) _))).mono ?_
  rintro e w1 ⟨⟨M, rfl, hM⟩, hb1⟩
  obtain ⟨R, c, _, g2, _, _⟩ := hM.all
  have a1 : w1.cell? ⟨w.heap.size, 0, none⟩ = some nv := (hb1.cell (p := ⟨w.heap.size, 0, none⟩) (by simp; omega)).trans (by simp)
  have a2 : w1.cell? ⟨w.heap.size, 1, none⟩ = some (.slice none 0 0) := (hb1.cell (p := ⟨w.heap.size, 1, none⟩) (by simp; omega)).trans (by simp)
  have a3 : w1.cell? ⟨w.heap.size + 1, 0, none⟩ = some (.int .i64 x) := (hb1.cell (p := ⟨w.heap.size + 1, 0, none⟩) (by simp)).trans (by simp)
  have a4 : w1.cell? ⟨w.heap.size + 1, 1, none⟩ = some (.int .i64 y) := (hb1.cell (p := ⟨w.heap.size + 1, 1, none⟩) (by simp)).trans (by simp)
  have HB : Aside (Below w.heap.size w w1) := (((Below.refl _ _).alloc (Nat.le_refl _) _).alloc (by simp) _).trans (hb1.mono (by simp; omega))
  clear hb1 hM H HM
  go_wp2_with fail
  go_region_held3 (fun w' => w'.cell? ⟨w.heap.size, 0, none⟩ = some nv ∧ w'.cell? ⟨w.heap.size, 1, none⟩ = some (.slice none 0 0) ∧ w'.cell? ⟨w.heap.size + 1, 0, none⟩ = some (.int .i64 x) ∧ w'.cell? ⟨w.heap.size + 1, 1, none⟩ = some (.int .i64 y) ∧ w'.cell? ⟨M, 2, none⟩ = some (.slice none 0 0))
    (first
      | go_keep
      | (refine ⟨?_, ?_, ?_, ?_, ?_⟩ <;> exact cell_below hb4 (by assumption))
      | (refine ⟨?_, ?_, ?_, ?_, ?_⟩ <;> exact cell_below hb5 (cell_below hb4 (by assumption))))
    (first
      | (go_at_call 138; refine (mapAt0 M ⟨x, y⟩ _ ?_).mono ?_; (simp [*]); rintro e w4 ⟨rfl, hb4⟩)
      | (go_at_call 68; refine (faceOf0 _ nv _ M _ rfl).mono ?_; rintro e w5 ⟨rfl, hb5⟩))
  go_wp2_with fail
  go_ret
  refine ⟨rfl, ?_⟩
  exact below_then HB.out (by have := World.block_lt_of_cell? _ _ a3; simp at this; omega) (below_then (show Below w1.heap.size w1 w4 from (show Below w1.heap.size w1 w1.drew from (Below.refl _ _).drew).trans hb4) (by simpa using hb4.size) hb5)
end Go.Proofs.YtnpfoicniodobaaGreat
