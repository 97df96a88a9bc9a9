/- Plans without edges and without nodes. -/
import Derived.Test.YtnpfoicniodobaaGreatE1
namespace Go.Proofs.YtnpfoicniodobaaGreat
open Go.RowKit

set_option maxHeartbeats 12000000 in
set_option maxRecDepth 100000 in
theorem mapOf0_nil (w : World) :
    Calls Tryz.prog 67 #[.agg #[.slice none 0 0, .slice none 0 0]] w fun e w' => (∃ M, e = .returned (.pointer (some ⟨M, 0, none⟩)) ∧ Map0 w' M) ∧ Below w.heap.size w w' := by
  have hmm := @run_makeMap Tryz.prog
  go_enter Tryz.func67, Tryz.ntmps67
  go_wp2_with fail
  refine (of0 _ _).mono ?_
  rintro e w1 ⟨⟨bw, rfl, hW⟩, hb1⟩
  have HW : Aside (Walk0 w1 bw) := hW
  have hz1 : w.heap.size < w1.heap.size := by have := hb1.size; simp at this; omega
  have HB1 : Aside (Below w.heap.size w w1) := ((Below.refl _ _).alloc (Nat.le_refl _) _).trans (hb1.mono (by simp))
  have hp1 : w1.heap[w.heap.size]? = some (.cells #[.slice none 0 0, .slice none 0 0] 25 (0, 0)) := (hb1.block w.heap.size (by simp)).trans (heap_alloc_new w _)
  have HP1 : Aside (w1.heap[w.heap.size]? = some (.cells #[.slice none 0 0, .slice none 0 0] 25 (0, 0))) := hp1
  clear hW hb1 hp1
  go_wp2_with fail
  refine (parts0 bw _ (HW.out.below (((Below.refl _ _).alloc (Nat.le_refl _) _).alloc (by simp) _))).mono ?_
  rintro e w2 ⟨⟨m, rfl, hm⟩, hb2⟩
  go_wp2_with fail
  have hz2 : w1.heap.size < w2.heap.size := by have := hb2.size; simp at this; omega
  refine (rings0 bw _ (((HW.out.below (((Below.refl _ _).alloc (Nat.le_refl _) _).alloc (by simp) _)).below hb2).below ((Below.refl _ _).alloc (Nat.le_refl _) _))).mono ?_
  rintro e w3 ⟨rfl, hb3⟩
  have hz3 : w2.heap.size < w3.heap.size := by have := hb3.size; simp at this; omega
  have hlo : Loop0 w3.heap.size w1.heap.size w2.heap.size m (w1.heap.size + 1) 0 [] w3 := by
    refine ⟨⟨.slice none 0 0, ?_, World.ownsRow_nil _ _ _ _⟩, ?_, (hm.alloc _).below hb3, Nat.le_refl _⟩
    · rw [hb3.block w1.heap.size (by simp; omega), heap_alloc_old _ _ (by omega), hb2.block w1.heap.size (by simp <;> omega), heap_alloc_old _ _ (by simp)]
      exact heap_alloc_new w1 _
    · rw [hb3.block w2.heap.size (by simp)]
      exact heap_alloc_new w2 _
  have hmlt : m < w3.heap.size := hlo.map.lt
  have HB3 : Aside (Below w.heap.size w w3) := HB1.out.trans (((((Below.refl _ _).alloc (Nat.le_refl _) _).alloc (by simp) _).trans (hb2.mono (by simp <;> omega))).mono (by omega) |>.trans ((((Below.refl _ _).alloc (Nat.le_refl _) _).trans (hb3.mono (by simp))).mono (by omega)))
  have HP3 : Aside (w3.heap[w.heap.size]? = some (.cells #[.slice none 0 0, .slice none 0 0] 25 (0, 0))) := by
    show _ = _
    rw [hb3.block w.heap.size (by simp; omega), heap_alloc_old _ _ (by omega), hb2.block w.heap.size (by simp; omega), heap_alloc_old _ _ (by simp; omega), heap_alloc_old _ _ (by omega)]
    exact HP1.out
  have HLO : Aside (Loop0 w3.heap.size w1.heap.size w2.heap.size m (w1.heap.size + 1) 0 [] w3) := hlo
  clear hlo hb3 hb2 hm HP1 HB1 HW hmm
  generalize w1.heap.size = R at *
  generalize w2.heap.size = M at *
  clear w1 w2
  go_wp2_with fail
  refine wp_loop_rounds 1 ?_
  rw [rounds_succ]
  go_wp2_with fail
  refine wp_loop_rounds 1 ?_
  rw [rounds_succ]
  have cp : w3.cell? ⟨w.heap.size, 0, none⟩ = some (.slice none 0 0) := by have := HP3.out; simp [World.cell?, this]
  go_wp2_with fail
  clear cp
  refine wp_loop_rounds 1 ?_
  rw [rounds_succ]
  obtain ⟨v, hR, hv⟩ := HLO.out.all
  have hM := HLO.out.blk
  have cM0 : w3.cell? ⟨M, 0, none⟩ = some (.slice (some ⟨R, 0, none⟩) 1 1) := cell_of_blk hM 0
  have cR2 : w3.cell? ⟨R, 2, none⟩ = some v := cell_of_blk hR 2
  have cR1 : w3.cell? ⟨R, 1, none⟩ = some (.slice none 0 0) := cell_of_blk hR 1
  obtain ⟨A, cc, hA⟩ := own_slice hv
  have HV := Lib.hid hv
  have HR := Lib.hid hR
  have HM := Lib.hid hM
  clear hv hR hM
  subst hA
  go_wp2_with fail
  refine wp_loop_rounds 2 ?_
  rw [rounds_succ]
  go_upto_block 7 with fail
  go_cut [] (fun wx => ∃ A3 n3 c3, Aside (wx.heap[R]? = some (.cells #[.slice none 0 0, .slice none 0 0, .slice A3 n3 c3] 108 (0, 0))) ∧ Aside (wx.heap[M]? = some (.cells #[.slice (some ⟨R, 0, none⟩) 1 1, .map (some (R + 1)), .slice none 0 0, .map (some m)] 106 (0, 0))) ∧ Aside (Below w.heap.size w wx))
  case rest =>
    obtain ⟨A3, n3, c3, HR6, HM6, HB6⟩ := hcut
    clear cM0 cR2 cR1 HV HR HM HLO HB3 HP3
    go_wp2_with fail
    rw [rounds_succ]
    have cM0 : wc.cell? ⟨M, 0, none⟩ = some (.slice (some ⟨R, 0, none⟩) 1 1) := cell_of_blk HM6.out 0
    have f0 : wc.frozen? ⟨M, 0, none⟩ = false := frozen_of_blk HM6.out 0
    go_wp2_with fail
    refine (clipR R 0 1 1 (Nat.le_refl _) _).mono ?_
    rintro e w' ⟨rfl, rfl⟩
    go_wp2_with fail
    go_ret
    refine ⟨⟨M, rfl, ⟨R, 1, ?_, ?_, ?_, ?_⟩⟩, HB6.out.setCell (show w.heap.size ≤ M by omega) _⟩
    · exact cell_of_blk (set_blk HM6.out 0 _) 0
    · exact cell_of_blk (set_blk HM6.out 0 _) 2
    · exact cell_of_blk (set_blk_other HR6.out (by simp; omega)) 0
    · exact cell_of_blk (set_blk_other HR6.out (by simp; omega)) 1
  go_wp2_with fail
  have hv5 : w3.ownsRow w3.heap.size 3 1 (.slice A 0 cc) (([] : List Nd).map Nd.id).length (ints (([] : List Nd).map Nd.id)) := by
    exact HV.out
  refine (sort_own w3.heap.size _ (([] : List Nd).map Nd.id) w3 hv5 (by simp)).mono ?_
  rintro e w5 ⟨rfl, ho5, hg5⟩
  have hvR : (Value.slice A 0 cc).ownBlock ≠ some R := fun e => by have := (HV.out.lt R e).1; omega
  have hvM : (Value.slice A 0 cc).ownBlock ≠ some M := fun e => by have := (HV.out.lt M e).1; omega
  have HR5 := Lib.hid (grown_blk hg5 HR.out (Ne.symm hvR))
  have HM5 := Lib.hid (grown_blk hg5 HM.out (Ne.symm hvM))
  have HB5 : Aside (Below w.heap.size w w5) := HB3.out.grown hg5 HB3.out.size (fun k hk => by have := (HV.out.lt k hk).1; omega)
  have dM0 : w5.cell? ⟨M, 0, none⟩ = some (.slice (some ⟨R, 0, none⟩) 1 1) := cell_of_blk HM5.out 0
  have dR2 : w5.cell? ⟨R, 2, none⟩ = some (.slice A 0 cc) := cell_of_blk HR5.out 2
  have dR1 : w5.cell? ⟨R, 1, none⟩ = some (.slice none 0 0) := cell_of_blk HR5.out 1
  have f2 : w5.frozen? ⟨R, 2, none⟩ = false := frozen_of_blk HR5.out 2
  have f1 : w5.frozen? ⟨R, 1, none⟩ = false := frozen_of_blk HR5.out 1
  have hclip : ∃ A2 c2, ∀ W, Calls Tryz.prog 66 #[.slice A 0 cc] W (fun e w' => e = .returned (.slice A2 0 c2) ∧ w' = W) := by
    rcases own_form HV.out with ⟨e, e0⟩ | ⟨b', c', e, h1, h2, h3, h4⟩
    · cases e
      exact ⟨_, _, fun W => (clipI_nil W).mono fun _ _ h => ⟨h.1, h.2.symm⟩⟩
    · cases e
      exact ⟨_, _, fun W => (clipI b' 0 0 cc h3 W).mono fun _ _ h => ⟨h.1, h.2.symm⟩⟩
  obtain ⟨A2, c2, hcl⟩ := hclip
  have HCL := Lib.hid hcl
  clear hcl hv5 ho5 hg5 cM0 cR2 cR1 HV HR HM HLO HB3 HP3
  go_wp2_with fail
  go_region_law (first | (go_simp; go_at_call 66; refine (HCL.out _).mono ?_; rintro e w' ⟨rfl, rfl⟩) | (go_simp; go_at_call 69; refine (clipL_nil _).mono ?_; rintro e w' ⟨rfl, rfl⟩))
  all_goals
    go_wp2_with fail
    go_meet
    have hMR : M ≠ R := by omega
    exact ⟨A2, 0, c2, set_blk (set_blk HR5.out 2 _) 1 _, set_blk_other (set_blk_other HM5.out hMR) hMR, ((HB5.out.setCell (show w.heap.size ≤ R by omega) _).setCell (show w.heap.size ≤ R by omega) _).drew⟩
end Go.Proofs.YtnpfoicniodobaaGreat
