/- Plans without edges: the regions: there is one, and it holds all. -/
import Derived.Test.YtnpfoicniodobaaGreatE0
import Derived.Deep.RegionHeld3
import Derived.Deep.DeepCutAuto
import Derived.BigRegion
import Derived.Deep.RegionLaw
import Derived.Deep.CutBlock
import Derived.Test.YtnpfoicniodobaaGreatSo
namespace Go.Proofs.YtnpfoicniodobaaGreat
open Go.RowKit

set_option maxHeartbeats 400000 in
theorem least0 (b : Nat) (p : Pt) (k : Int) (w : World) (h : w.cell? ⟨b, 2, none⟩ = some (.slice none 0 0)) :
    Calls Tryz.prog 145 #[.pointer (some ⟨b, 0, none⟩), vP p, .int .i64 k] w fun e w' => e = .returned (.int .i64 0) ∧ Below w.heap.size w w' := by
  obtain ⟨x, y⟩ := p
  simp only [vP]
  have hlt := World.block_lt_of_cell? w _ h
  have h1 := cell_below ((Below.refl _ _).alloc (Nat.le_refl _) (.cells #[.int .i64 x, .int .i64 y] 27)) h
  clear h
  go_enter Tryz.func145, Tryz.ntmps145
  go_wp2
  go_step3
  go_wp2
  go_step3
  go_wp2
  refine wp_loop_rounds 1 ?_
  rw [rounds_succ]
  go_wp2
  rw [Exit.noGoto_ret]
  go_ret
  exact ⟨rfl, (Below.refl _ _).alloc (Nat.le_refl _) _⟩

set_option maxHeartbeats 400000 in
theorem mapAt0 (b : Nat) (p : Pt) (w : World) (h : w.cell? ⟨b, 2, none⟩ = some (.slice none 0 0)) :
    Calls Tryz.prog 138 #[.pointer (some ⟨b, 0, none⟩), vP p] w fun e w' => e = .returned (.int .i64 0) ∧ Below w.heap.size w w' := by
  have h1 := cell_below ((Below.refl _ _).alloc (Nat.le_refl _) (.cells #[.int .i64 p.x, .int .i64 p.y] 27)) h
  have hl := least0 b p 0 _ h1
  have HL := Lib.hid hl
  clear h h1 hl
  obtain ⟨x, y⟩ := p
  simp only [vP] at HL ⊢
  go_enter Tryz.func138, Tryz.ntmps138
  go_wp2_with fail
  refine HL.out.mono ?_
  rintro e w' ⟨rfl, hb⟩
  go_wp2_with fail
  go_ret
  exact ⟨rfl, ((Below.refl _ _).alloc (Nat.le_refl _) _).trans (hb.mono (by simp))⟩

/-- What is known of a plan's regions where there are no edges. -/
structure Map0 (w : World) (M : Nat) : Prop where
  all : ∃ R c, w.cell? ⟨M, 0, none⟩ = some (.slice (some ⟨R, 0, none⟩) 1 c) ∧ w.cell? ⟨M, 2, none⟩ = some (.slice none 0 0) ∧ w.cell? ⟨R, 0, none⟩ = some (.slice none 0 0) ∧ w.cell? ⟨R, 1, none⟩ = some (.slice none 0 0)

/-- What holds while the nodes are gone through. -/
structure Loop0 (base R M m o k : Nat) (ids : List Value) (wr : World) : Prop where
  all : ∃ v, wr.heap[R]? = some (.cells #[.slice none 0 0, .slice none 0 0, v] 108 (0, 0)) ∧ wr.ownsRow base 3 1 v k ids
  blk : wr.heap[M]? = some (.cells #[.slice (some ⟨R, 0, none⟩) 1 1, .map (some o), .slice none 0 0, .map (some m)] 106 (0, 0))
  map : MapI wr m []
  size : base ≤ wr.heap.size

set_option maxHeartbeats 12000000 in
set_option maxRecDepth 100000 in
theorem mapOf0 (b off c : Nat) (zs : List Nd) (w : World) (hbig : zs.length ≤ 1000000000) (hc : CellsN w b off zs) :
    Calls Tryz.prog 67 #[.agg #[.slice (some ⟨b, off, none⟩) zs.length c, .slice none 0 0]] w fun e w' => (∃ M, e = .returned (.pointer (some ⟨M, 0, none⟩)) ∧ Map0 w' M) ∧ Below w.heap.size w w' := by
  obtain ⟨n, hn⟩ : ∃ n, zs.length = n := ⟨_, rfl⟩
  rw [hn] at hbig ⊢
  have HN := Lib.hid hn
  have HC := Lib.hid hc
  clear hn hc
  have hmm := @run_makeMap Tryz.prog
  go_enter Tryz.func67, Tryz.ntmps67
  go_wp2_with fail
  refine (of0 _ _).mono ?_
  rintro e w1 ⟨⟨bw, rfl, hW⟩, hb1⟩
  have HW : Aside (Walk0 w1 bw) := hW
  have hz1 : w.heap.size < w1.heap.size := by have := hb1.size; simp at this; omega
  have HB1 : Aside (Below w.heap.size w w1) := ((Below.refl _ _).alloc (Nat.le_refl _) _).trans (hb1.mono (by simp))
  have hp1 : w1.heap[w.heap.size]? = some (.cells #[.slice (some ⟨b, off, none⟩) n c, .slice none 0 0] 25 (0, 0)) := (hb1.block w.heap.size (by simp)).trans (heap_alloc_new w _)
  have HP1 : Aside (w1.heap[w.heap.size]? = some (.cells #[.slice (some ⟨b, off, none⟩) n c, .slice none 0 0] 25 (0, 0))) := hp1
  clear hW hb1 hp1
  go_wp2_with fail
  refine (parts0 bw _ (HW.out.below (((Below.refl _ _).alloc (Nat.le_refl _) _).alloc (by simp) _))).mono ?_
  rintro e w2 ⟨⟨m, rfl, hm⟩, hb2⟩
  go_wp2_with fail
  have hz2 : w1.heap.size < w2.heap.size := by have := hb2.size; simp at this; omega
  refine (rings0 bw _ (((HW.out.below (((Below.refl _ _).alloc (Nat.le_refl _) _).alloc (by simp) _)).below hb2).below ((Below.refl _ _).alloc (Nat.le_refl _) _))).mono ?_
  rintro e w3 ⟨rfl, hb3⟩
  have hz3 : w2.heap.size < w3.heap.size := by have := hb3.size; simp at this; omega
  have hlo : Loop0 w3.heap.size w1.heap.size w2.heap.size m (w1.heap.size + 1) 0 [] w3 := by
    refine ⟨⟨.slice none 0 0, ?_, World.ownsRow_nil _ _ _ _⟩, ?_, (hm.alloc _).below hb3, Nat.le_refl _⟩
    · rw [hb3.block w1.heap.size (by simp; omega), heap_alloc_old _ _ (by omega), hb2.block w1.heap.size (by simp <;> omega), heap_alloc_old _ _ (by simp)]
      exact heap_alloc_new w1 _
    · rw [hb3.block w2.heap.size (by simp)]
      exact heap_alloc_new w2 _
  have hmlt : m < w3.heap.size := hlo.map.lt
  have HB3 : Aside (Below w.heap.size w w3) := HB1.out.trans (((((Below.refl _ _).alloc (Nat.le_refl _) _).alloc (by simp) _).trans (hb2.mono (by simp <;> omega))).mono (by omega) |>.trans ((((Below.refl _ _).alloc (Nat.le_refl _) _).trans (hb3.mono (by simp))).mono (by omega)))
  have HP3 : Aside (w3.heap[w.heap.size]? = some (.cells #[.slice (some ⟨b, off, none⟩) n c, .slice none 0 0] 25 (0, 0))) := by
    show _ = _
    rw [hb3.block w.heap.size (by simp; omega), heap_alloc_old _ _ (by omega), hb2.block w.heap.size (by simp; omega), heap_alloc_old _ _ (by simp; omega), heap_alloc_old _ _ (by omega)]
    exact HP1.out
  have HLO : Aside (Loop0 w3.heap.size w1.heap.size w2.heap.size m (w1.heap.size + 1) 0 [] w3) := hlo
  clear hlo hb3 hb2 hm HP1 HB1 HW hmm
  generalize w1.heap.size = R at *
  generalize w2.heap.size = M at *
  clear w1 w2
  go_wp2_with fail
  refine wp_loop_rounds 1 ?_
  rw [rounds_succ]
  go_wp2_with fail
  refine wp_loop_rounds 1 ?_
  rw [rounds_succ]
  have cp : w3.cell? ⟨w.heap.size, 0, none⟩ = some (.slice (some ⟨b, off, none⟩) n c) := by have := HP3.out; simp [World.cell?, this]
  go_wp2_with fail
  clear cp
  go_loopg [150] n (fun gg s150 wr => ∃ kk : Nat, kk ≤ n ∧ n - kk ≤ gg ∧ s150 = .int .i64 kk ∧ Aside (Loop0 w3.heap.size R M m (R + 1) kk (mapTo Nd.id zs kk) wr) ∧ Aside (Below w.heap.size w wr))
  case atStart => exact ⟨0, Nat.zero_le _, by omega, rfl, by rw [mapTo_zero]; exact HLO, HB3⟩
  case round =>
    obtain ⟨kk, hkk, hg, rfl, HL, BW⟩ := hrel
    clear HLO HP3 HB3
    by_cases hlt : kk < n
    · have hltz : (kk : Int) < (n : Int) := by omega
      obtain ⟨c0, c1, c2, c3⟩ := HC.out.below BW.out kk (by rw [HN.out]; exact hlt)
      have HTK : Aside (mapTo Nd.id zs (kk + 1) = mapTo Nd.id zs kk ++ [.int .i64 zs[kk]!.id]) := mapTo_succ Nd.id zs kk (by rw [HN.out]; exact hlt)
      generalize hy : zs[kk]! = y at c0 c1 c2 c3 HTK
      clear hy
      go_upto_block 5 with fail
      go_cut [] (fun wx => Aside (Loop0 w3.heap.size R M m (R + 1) (kk + 1) (mapTo Nd.id zs (kk + 1)) wx) ∧ Aside (Below w.heap.size w wx))
      case rest =>
        obtain ⟨HL5, HB5⟩ := hcut
        clear HTK HL BW
        go_wp2_with fail
        go_roundg (n - (kk + 1))
        case measure => omega
        case rel => exact ⟨kk + 1, by omega, by omega, by go_num, HL5, HB5⟩
      obtain ⟨v, hR, hv⟩ := HL.out.all
      have hM := HL.out.blk
      have cM0 : wr.cell? ⟨M, 0, none⟩ = some (.slice (some ⟨R, 0, none⟩) 1 1) := by simp [World.cell?, hM]
      have cM3 : wr.cell? ⟨M, 3, none⟩ = some (.map (some m)) := by simp [World.cell?, hM]
      have cM2 : wr.cell? ⟨M, 2, none⟩ = some (.slice none 0 0) := by simp [World.cell?, hM]
      have cR2 : wr.cell? ⟨R, 2, none⟩ = some v := by simp [World.cell?, hR]
      have hs := HL.out.size
      have HV := Lib.hid hv
      have HR := Lib.hid hR
      clear hv hR hM
      have hlM : M < wr.heap.size := by omega
      have hlR : R < wr.heap.size := by omega
      have hlm : m < wr.heap.size := by omega
      have hmd : MapI (wr.alloc (.cells #[.int .i64 y.id, .int .i64 y.x, .int .i64 y.y, .int .i64 y.face] 29)).drew m [] := HL.out.map.alloc _
      have hrun := hmd.getOk (P := Tryz.prog) Tryz.underlying103 Tryz.underlying3 (.int .i64 0) (fun w => by kernel_rfl) y.id
      simp only [lk, List.find?_nil, Option.map_none, Option.getD_none, Option.isSome_none] at hrun
      have HMD := Lib.hid hmd
      clear hmd
      go_wp2_with fail
      go_region
      clear hrun HMD
      go_wp2_with fail
      refine (least0 M ⟨y.x, y.y⟩ 0 _ (cell_below (w := wr) ((Below.refl _ _).alloc (Nat.le_refl _) _).drew cM2)).mono ?_
      rintro e w4 ⟨rfl, hb4⟩
      have hbx : Below wr.heap.size wr w4 := (((Below.refl _ _).alloc (Nat.le_refl _) _).drew).trans (hb4.mono (by simp))
      have cx : w4.cell? ⟨wr.heap.size, 0, none⟩ = some (.int .i64 y.id) := (hb4.cell (p := ⟨wr.heap.size, 0, none⟩) (by simp)).trans (by simp)
      have hz4 : wr.heap.size < w4.heap.size := by have := hb4.size; simp at this; omega
      have HCX := Lib.hid cx
      have dM0 := cell_below hbx cM0
      have dR2 := cell_below hbx cR2
      have HV4 := Lib.hid (own_below HV.out hbx)
      have HR4 : Hid (w4.heap[R]? = some (.cells #[.slice none 0 0, .slice none 0 0, v] 108 (0, 0))) := (hbx.block R hlR).trans HR.out
      have HM4 : Hid (w4.heap[M]? = _) := (hbx.block M hlM).trans HL.out.blk
      have HI4 : Hid (MapI w4 m []) := HL.out.map.below hbx
      have HB4 : Hid (Below w.heap.size w w4) := BW.out.trans (hbx.mono BW.out.size)
      obtain ⟨i0, hi0, hz0, hz1', hz2'⟩ := info_parts infoI
      have eM0 := cell_below (w := w4) ((Below.refl _ _).alloc (Nat.le_refl _) (.cells #[.int .i64 y.id] 3)) dM0
      have eR2 := cell_below (w := w4) ((Below.refl _ _).alloc (Nat.le_refl _) (.cells #[.int .i64 y.id] 3)) dR2
      have ex := cell_below (w := w4) ((Below.refl _ _).alloc (Nat.le_refl _) (.cells #[.int .i64 y.id] 3)) cx
      have hvR : v.ownBlock ≠ some R := fun e => by have := (HV.out.lt R e).1; omega
      have hvM : v.ownBlock ≠ some M := fun e => by have := (HV.out.lt M e).1; omega
      have hvm : v.ownBlock ≠ some m := fun e => by have := (HV.out.lt m e).1; omega
      have hvx : v.ownBlock ≠ some wr.heap.size := fun e => by have := (HV.out.lt _ e).2; omega
      clear hb4 hbx cM0 cM2 cM3 cR2 HV HR HL BW
      go_wp2_with fail
      go_region_law
        ((refine step_append_lies _ (by rfl) _ _ _ (by rfl) w3.heap.size 3 i0 _ 1 8 Tryz.underlying42 hi0 hz0 hz1' hz2' rfl (by omega) v kk (mapTo Nd.id zs kk) (by rfl) ((HV4.out.alloc _).drew)
            ⟨w4.heap.size, 0, none⟩ 1 1 [.int .i64 y.id] (by rfl) (by rfl) (World.news_of_block (cs := #[.int .i64 y.id]) (t := 3) (fr := (0, 0)) (heap_alloc_new w4 _)) (by simp [Value.oneCell'])
            (by omega) (by simp only [maxLen]; omega) (by omega) (by simp; omega) (w4.heap.size + 1) (by simp) ?_; intro gg cap w5 hown1 hgrow hat hlt5; have hf5 : w5.frozen? ⟨R, 2, none⟩ = false := frozen_of_blk (grown_blk hgrow (alloc_blk (w := w4) _ HR4.out) (Ne.symm hvR)) 2; have hc5 : w5.cell? ⟨R, 2, none⟩ = some v := cell_of_blk (grown_blk hgrow (alloc_blk (w := w4) _ HR4.out) (Ne.symm hvR)) 2; have hM5 : w5.cell? ⟨M, 0, none⟩ = some (.slice (some ⟨R, 0, none⟩) 1 1) := cell_of_blk (grown_blk hgrow (alloc_blk (w := w4) _ HM4.out) (Ne.symm hvM)) 0; have hx5 : w5.cell? ⟨wr.heap.size, 0, none⟩ = some (.int .i64 y.id) := (hgrow.cell_far _ (by simp; omega) (Ne.symm hvx)).trans (cell_below (w := w4) ((Below.refl _ _).alloc (Nat.le_refl _) _).drew HCX.out)))
      all_goals
        have HL5 : Aside (Loop0 w3.heap.size R M m (R + 1) (kk + 1) (mapTo Nd.id zs (kk + 1)) (w5.setCell ⟨R, 2, none⟩ (.slice (some ⟨gg, 0, none⟩) (kk + 1) cap))) := by
          have hgR : gg ≠ R := by have := (hown1.lt gg rfl).1; omega
          refine ⟨⟨_, set_blk (grown_blk hgrow (alloc_blk (w := w4) _ HR4.out) (Ne.symm hvR)) 2 _, ?_⟩, set_blk_other (grown_blk hgrow (alloc_blk (w := w4) _ HM4.out) (Ne.symm hvM)) (by simp; omega), ?_, ?_⟩
          · rw [HTK.out]
            exact ownsRow_setCell_other hown1 (by simp [Value.ownBlock]; exact hgR) _
          · obtain ⟨es, ck, q1, q2⟩ := HI4.out
            exact ⟨es, ck, set_blk_other (grown_blk hgrow (alloc_blk (w := w4) _ q1) (Ne.symm hvm)) (fun e : m = R => by have h := HR4.out; rw [← e, q1] at h; cases h), q2⟩
          · have := hgrow.size
            simp at this
            simp
            omega
        have HB5 : Aside (Below w.heap.size w (w5.setCell ⟨R, 2, none⟩ (.slice (some ⟨gg, 0, none⟩) (kk + 1) cap))) :=
          ((((HB4.out.alloc HB4.out.size _).drew).grown hgrow (by have := HB4.out.size; simp; omega) (fun k hk => by have := (HV4.out.lt k hk).1; have := hz3; omega)).setCell (by simp; omega) _)
        clear hgrow hat hown1 hlt5 hf5 hc5 hM5 hx5 eM0 eR2 ex dM0 dR2 cx HCX HV4 HR4 HM4 HI4 HB4 HTK
        go_wp2_with fail
        go_meet
        exact ⟨HL5, HB5⟩
    · have hltz : ¬ (kk : Int) < (n : Int) := by omega
      have : kk = n := by omega
      subst this
      obtain ⟨v, hR, hv⟩ := HL.out.all
      have hM := HL.out.blk
      have cM0 : wr.cell? ⟨M, 0, none⟩ = some (.slice (some ⟨R, 0, none⟩) 1 1) := cell_of_blk hM 0
      have cR2 : wr.cell? ⟨R, 2, none⟩ = some v := cell_of_blk hR 2
      have cR1 : wr.cell? ⟨R, 1, none⟩ = some (.slice none 0 0) := cell_of_blk hR 1
      obtain ⟨A, cc, hA⟩ := own_slice hv
      have HV := Lib.hid hv
      have HR := Lib.hid hR
      have HM := Lib.hid hM
      clear hv hR hM
      subst hA
      go_wp2_with fail
      refine wp_loop_rounds 2 ?_
      rw [rounds_succ]
      go_upto_block 7 with fail
      go_cut [] (fun wx => ∃ A3 n3 c3, Aside (wx.heap[R]? = some (.cells #[.slice none 0 0, .slice none 0 0, .slice A3 n3 c3] 108 (0, 0))) ∧ Aside (wx.heap[M]? = some (.cells #[.slice (some ⟨R, 0, none⟩) 1 1, .map (some (R + 1)), .slice none 0 0, .map (some m)] 106 (0, 0))) ∧ Aside (Below w.heap.size w wx))
      case rest =>
        obtain ⟨A3, n3, c3, HR6, HM6, HB6⟩ := hcut
        clear cM0 cR2 cR1 HV HR HM HL BW
        go_wp2_with fail
        rw [rounds_succ]
        have cM0 : wc.cell? ⟨M, 0, none⟩ = some (.slice (some ⟨R, 0, none⟩) 1 1) := cell_of_blk HM6.out 0
        have f0 : wc.frozen? ⟨M, 0, none⟩ = false := frozen_of_blk HM6.out 0
        go_wp2_with fail
        refine (clipR R 0 1 1 (Nat.le_refl _) _).mono ?_
        rintro e w' ⟨rfl, rfl⟩
        go_wp2_with fail
        go_ret
        refine ⟨⟨M, rfl, ⟨R, 1, ?_, ?_, ?_, ?_⟩⟩, HB6.out.setCell (show w.heap.size ≤ M by omega) _⟩
        · exact cell_of_blk (set_blk HM6.out 0 _) 0
        · exact cell_of_blk (set_blk HM6.out 0 _) 2
        · exact cell_of_blk (set_blk_other HR6.out (by simp; omega)) 0
        · exact cell_of_blk (set_blk_other HR6.out (by simp; omega)) 1
      go_wp2_with fail
      have hv5 : wr.ownsRow w3.heap.size 3 1 (.slice A kk cc) (zs.map Nd.id).length (ints (zs.map Nd.id)) := by
        have h := HV.out
        rw [mapTo_all _ _ _ HN.out] at h
        rw [List.length_map, HN.out]
        exact h
      refine (sort_own w3.heap.size _ (zs.map Nd.id) wr hv5 (by rw [List.length_map, HN.out]; exact hbig)).mono ?_
      rintro e w5 ⟨rfl, ho5, hg5⟩
      have hvR : (Value.slice A kk cc).ownBlock ≠ some R := fun e => by have := (HV.out.lt R e).1; omega
      have hvM : (Value.slice A kk cc).ownBlock ≠ some M := fun e => by have := (HV.out.lt M e).1; omega
      have HR5 := Lib.hid (grown_blk hg5 HR.out (Ne.symm hvR))
      have HM5 := Lib.hid (grown_blk hg5 HM.out (Ne.symm hvM))
      have HB5 : Aside (Below w.heap.size w w5) := BW.out.grown hg5 BW.out.size (fun k hk => by have := (HV.out.lt k hk).1; omega)
      have dM0 : w5.cell? ⟨M, 0, none⟩ = some (.slice (some ⟨R, 0, none⟩) 1 1) := cell_of_blk HM5.out 0
      have dR2 : w5.cell? ⟨R, 2, none⟩ = some (.slice A kk cc) := cell_of_blk HR5.out 2
      have dR1 : w5.cell? ⟨R, 1, none⟩ = some (.slice none 0 0) := cell_of_blk HR5.out 1
      have f2 : w5.frozen? ⟨R, 2, none⟩ = false := frozen_of_blk HR5.out 2
      have f1 : w5.frozen? ⟨R, 1, none⟩ = false := frozen_of_blk HR5.out 1
      have hclip : ∃ A2 c2, ∀ W, Calls Tryz.prog 66 #[.slice A kk cc] W (fun e w' => e = .returned (.slice A2 kk c2) ∧ w' = W) := by
        rcases own_form HV.out with ⟨e, e0⟩ | ⟨b', c', e, h1, h2, h3, h4⟩
        · cases e
          exact ⟨_, _, fun W => (clipI_nil W).mono fun _ _ h => ⟨h.1, h.2.symm⟩⟩
        · cases e
          exact ⟨_, _, fun W => (clipI b' 0 kk cc h3 W).mono fun _ _ h => ⟨h.1, h.2.symm⟩⟩
      obtain ⟨A2, c2, hcl⟩ := hclip
      have HCL := Lib.hid hcl
      clear hcl hv5 ho5 hg5 cM0 cR2 cR1 HV HR HM HL BW
      go_wp2_with fail
      go_region_law (first | (go_simp; go_at_call 66; refine (HCL.out _).mono ?_; rintro e w' ⟨rfl, rfl⟩) | (go_simp; go_at_call 69; refine (clipL_nil _).mono ?_; rintro e w' ⟨rfl, rfl⟩))
      all_goals
        go_wp2_with fail
        go_meet
        have hMR : M ≠ R := by omega
        exact ⟨A2, kk, c2, set_blk (set_blk HR5.out 2 _) 1 _, set_blk_other (set_blk_other HM5.out hMR) hMR, ((HB5.out.setCell (show w.heap.size ≤ R by omega) _).setCell (show w.heap.size ≤ R by omega) _).drew⟩
end Go.Proofs.YtnpfoicniodobaaGreat
