/- The small closures that are asked of each node or edge. -/
import Derived.Test.YtnpfoicniodobaaGreatB
namespace Go.Proofs.YtnpfoicniodobaaGreat
open Go.RowKit

def nr (x : Int) : Int := if x < -1048576 then -1048576 else if 1048576 < x then 1048576 else x
def okP (p : Pt) : Bool := decide (-1048576 ≤ p.x) && decide (p.x ≤ 1048576) && decide (-1048576 ≤ p.y) && decide (p.y ≤ 1048576)
def nrP (p : Pt) : Pt := ⟨nr p.x, nr p.y⟩

set_option maxHeartbeats 400000 in
theorem ok_any (p : Pt) (w : World) :
    Calls Tryz.prog 60 #[vP p] w fun e w' => e = .returned (.bool (okP p)) ∧ Below w.heap.size w w' := by
  obtain ⟨x, y⟩ := p
  simp only [vP]
  unfold okP
  by_cases h1 : -1048576 ≤ x
  · by_cases h2 : x ≤ 1048576
    · by_cases h3 : -1048576 ≤ y
      · by_cases h4 : y ≤ 1048576
        · go_enter Tryz.func60, Tryz.ntmps60
          go_wp2
          go_ret
          exact ⟨by simp <;> omega, (Below.refl _ _).alloc (Nat.le_refl _) _⟩
        · go_enter Tryz.func60, Tryz.ntmps60
          go_wp2
          go_ret
          exact ⟨by simp <;> omega, (Below.refl _ _).alloc (Nat.le_refl _) _⟩
      · go_enter Tryz.func60, Tryz.ntmps60
        go_wp2
        go_ret
        exact ⟨by simp <;> omega, (Below.refl _ _).alloc (Nat.le_refl _) _⟩
    · go_enter Tryz.func60, Tryz.ntmps60
      go_wp2
      go_ret
      exact ⟨by simp <;> omega, (Below.refl _ _).alloc (Nat.le_refl _) _⟩
  · go_enter Tryz.func60, Tryz.ntmps60
    go_wp2
    go_ret
    exact ⟨by simp <;> omega, (Below.refl _ _).alloc (Nat.le_refl _) _⟩

theorem nr_lo {x : Int} (h : x < -1048576) : nr x = -1048576 := by unfold nr; rw [if_pos h]
theorem nr_hi {x : Int} (h : 1048576 < x) : nr x = 1048576 := by unfold nr; rw [if_neg (by omega), if_pos h]
theorem nr_in {x : Int} (h1 : -1048576 ≤ x) (h2 : x ≤ 1048576) : nr x = x := by unfold nr; rw [if_neg (by omega), if_neg (by omega)]
theorem nr_nr (x : Int) : nr (nr x) = nr x := by unfold nr; split <;> (try split) <;> (try split) <;> omega
theorem nr_bd (x : Int) : -1048576 ≤ nr x ∧ nr x ≤ 1048576 := by unfold nr; split <;> (try split) <;> omega
theorem nrP_nrP (p : Pt) : nrP (nrP p) = nrP p := by simp [nrP, nr_nr]
theorem nrP_ok {p : Pt} (h : okP p = true) : nrP p = p := by
  obtain ⟨x, y⟩ := p
  simp only [okP, Bool.and_eq_true, decide_eq_true_eq] at h
  simp only [nrP, Pt.mk.injEq]
  exact ⟨nr_in h.1.1.1 h.1.1.2, nr_in h.1.2 h.2⟩

theorem nr_cases (x : Int) : (x < -1048576 ∧ nr x = -1048576) ∨ (¬ x < -1048576 ∧ 1048576 < x ∧ nr x = 1048576) ∨ (-1048576 ≤ x ∧ x ≤ 1048576 ∧ nr x = x) := by
  unfold nr
  split
  · exact .inl ⟨by omega, rfl⟩
  · split
    · exact .inr (.inl ⟨by omega, by omega, rfl⟩)
    · exact .inr (.inr ⟨by omega, by omega, rfl⟩)

set_option maxHeartbeats 400000 in
theorem near_any (p : Pt) (w : World) :
    Calls Tryz.prog 133 #[vP p] w fun e w' => e = .returned (vP (nrP p)) ∧ Below w.heap.size w w' := by
  obtain ⟨x, y⟩ := p
  simp only [vP, nrP]
  rcases nr_cases x with ⟨hx, ex⟩ | ⟨_, hx, ex⟩ | ⟨hx, hx', ex⟩ <;> rcases nr_cases y with ⟨hy, ey⟩ | ⟨_, hy, ey⟩ | ⟨hy, hy', ey⟩
  all_goals
    rw [ex, ey]
    clear ex ey
    go_enter Tryz.func133, Tryz.ntmps133
    go_wp2
    refine bodyPost_ret ?_ rfl ⟨rfl, ((Below.refl _ _).alloc (Nat.le_refl _) _).alloc (by simp) _⟩
    simp [results, Tryz.results133, go_sem]

/-- The closure of 'there is a node of this ID' (plan.Node): what it captures is a box that holds the ID. -/
theorem nodeId_pred (id : Int) (a : Addr) (w : World) (hc : w.cell? a = some (.int .i64 id)) :
    PredBelow Tryz.prog 175 #[.pointer (some a)] vN (fun n => n.id == id) w := by
  intro W n hb
  have hW := cell_below hb hc
  have hb2 := bcell hb
  have HB := Lib.hid hb
  have hlt := World.block_lt_of_cell? W a hW
  clear hb hc hb2
  obtain ⟨b, o, s⟩ := a
  obtain ⟨i, x, y, f⟩ := n
  simp only [vN]
  show Calls Tryz.prog 175 #[.agg #[.int .i64 i, .int .i64 x, .int .i64 y, .int .i64 f], .pointer (some ⟨b, o, s⟩)] W _
  go_enter Tryz.func175, Tryz.ntmps175
  go_wp2
  go_ret
  exact ⟨rfl, HB.out.alloc HB.out.size _⟩

/-- The closure of 'a node lies there' (face.Free): it captures a box that holds a point. -/
theorem nodeAt_pred (q : Pt) (a : Addr) (ha : a.spot = none) (w : World) (hc : w.cell? a = some (.int .i64 q.x)) (hc1 : w.cell? ⟨a.block, a.off + 1, none⟩ = some (.int .i64 q.y)) :
    PredBelow Tryz.prog 135 #[.pointer (some a)] vN (fun n => n.x == q.x && n.y == q.y) w := by
  intro W n hb
  have hW := cell_below hb hc
  have hW1 := cell_below hb hc1
  have HB := Lib.hid hb
  have hlt := World.block_lt_of_cell? W a hW
  clear hb hc hc1
  obtain ⟨b, o, s⟩ := a
  obtain ⟨i, x, y, f⟩ := n
  obtain ⟨qx, qy⟩ := q
  simp only at ha hW hW1 hlt
  subst ha
  simp only [vN]
  show Calls Tryz.prog 135 #[.agg #[.int .i64 i, .int .i64 x, .int .i64 y, .int .i64 f], .pointer (some ⟨b, o, none⟩)] W _
  go_enter Tryz.func135, Tryz.ntmps135
  go_wp2
  all_goals
    go_ret
    refine ⟨ret_bool ?_, HB.out.alloc HB.out.size _⟩
    simp [*]
end Go.Proofs.YtnpfoicniodobaaGreat
