/- The IDs of nodes as a list; the least number that is not used. -/
import Derived.Test.YtnpfoicniodobaaGreatAp
import Derived.Test.YtnpfoicniodobaaGreatMp
import Derived.Test.YtnpfoicniodobaaGreatCl
namespace Go.Proofs.YtnpfoicniodobaaGreat
open Go.RowKit

theorem infoI : (Tryz.prog.info? 3).map (fun i => (i.zero, i.size, i.bytes)) = some (some (.int .i64 0), 1, 8) := by kernel_rfl

set_option maxHeartbeats 1000000 in
theorem nodeIDs_any (b off c : Nat) (ev : Value) (zs : List Nd) (w : World) (hbig : zs.length ≤ 1000000000) (hc : CellsN w b off zs) :
    Calls Tryz.prog 73 #[.agg #[.slice (some ⟨b, off, none⟩) zs.length c, ev]] w fun e w' => ∃ v, e = .returned v ∧ w'.ownsRow w.heap.size 3 1 v zs.length (ints (zs.map Nd.id)) ∧ Below w.heap.size w w' := by
  obtain ⟨n, hn⟩ : ∃ n, zs.length = n := ⟨_, rfl⟩
  rw [hn] at hbig ⊢
  have HN := Lib.hid hn
  have HC := Lib.hid hc
  clear hn hc
  go_enter Tryz.func73, Tryz.ntmps73
  go_wp2
  go_loopg [3, 9] n (fun gg s3 s9 wr => ∃ kk : Nat, kk ≤ n ∧ n - kk ≤ gg ∧ s9 = .int .i64 kk ∧ Aside (wr.ownsRow w.heap.size 3 1 s3 kk (mapTo Nd.id zs kk)) ∧ Aside (Below w.heap.size w wr) ∧ Aside (w.heap.size < wr.heap.size))
  case atStart => exact ⟨0, Nat.zero_le _, by omega, rfl, by rw [mapTo_zero]; exact World.ownsRow_nil _ _ _ _, (Below.refl _ _).alloc (Nat.le_refl _) _, by show _ < (w.alloc _).heap.size; simp⟩
  case round =>
    obtain ⟨kk, hkk, hg, rfl, HO, BW, HZ⟩ := hrel
    by_cases hlt : kk < n
    · have hltz : (kk : Int) < (n : Int) := by omega
      obtain ⟨c0, c1, c2, c3⟩ := HC.out.below BW.out kk (by rw [HN.out]; exact hlt)
      obtain ⟨A, c', hA⟩ := own_slice HO.out
      have HTK : Aside (mapTo Nd.id zs (kk + 1) = mapTo Nd.id zs kk ++ [.int .i64 zs[kk]!.id]) := mapTo_succ Nd.id zs kk (by rw [HN.out]; exact hlt)
      generalize hy : zs[kk]! = y at c0 c1 c2 c3 HTK
      clear hy
      subst hA
      go_wp2_with (at_builtin; refine wp_app w.heap.size rfl _ _ 42 3 (.int .i64 0) 1 8 rfl Tryz.underlying42 infoI rfl (by decide) (by decide) _ kk _ 1 #[.int .i64 y.id] _ rfl rfl ?c0 rfl ?c1 (HO.out.alloc _) ?c2 ?c3 ?_)
      case c0 => simp
      case c1 => simp [Value.oneCell']
      case c2 => have := HZ.out; simp; omega
      case c3 => omega
      intro v1 w1 hap
      have hb1 : Aside (Below w.heap.size w w1) := hap.below ((HO.out.alloc _).alloc _) (Nat.le_refl _) ((BW.out.alloc (Nat.le_of_lt HZ.out) _).alloc (by have := HZ.out; simp; omega) _) (by have := HZ.out; simp; omega)
      have ho1 : Aside (w1.ownsRow w.heap.size 3 1 v1 (kk + 1) (mapTo Nd.id zs (kk + 1))) := by
        have h := hap.own
        rw [HTK.out]
        exact h
      have hz1 : Aside (w.heap.size < w1.heap.size) := Nat.lt_of_lt_of_le (by have := HZ.out; simp; omega) hap.grown.size
      clear hap HTK HO BW HZ
      go_wp2_with fail
      go_roundg (n - (kk + 1))
      case measure => omega
      case rel => exact ⟨kk + 1, by omega, by omega, by go_num, ho1, hb1, hz1⟩
    · have hltz : ¬ (kk : Int) < (n : Int) := by omega
      have : kk = n := by omega
      subst this
      go_wp2
      go_ret
      refine ⟨_, rfl, ?_, BW.out⟩
      rw [← mapTo_all _ _ _ HN.out]
      exact HO.out

/-- r is the least number from 1 on that is not among some. -/
def IsLeast (ids : List Int) (r : Int) : Prop := 1 ≤ r ∧ r ∉ ids ∧ ∀ m, 1 ≤ m → m < r → m ∈ ids
theorem IsLeast.eq {ids : List Int} {r s : Int} (h : IsLeast ids r) (h' : IsLeast ids s) : r = s := by
  obtain ⟨h1, h2, h3⟩ := h
  obtain ⟨k1, k2, k3⟩ := h'
  rcases Int.lt_trichotomy r s with c | c | c
  · exact absurd (k3 r h1 c) h2
  · exact c
  · exact absurd (h3 s k1 c) k2
theorem many_in (n : Nat) : ∀ (ids : List Int), (∀ m : Nat, 1 ≤ m → m ≤ n → (m : Int) ∈ ids) → n ≤ ids.length := by
  induction n with
  | zero => intro ids _; omega
  | succ n ih =>
    intro ids h
    have h1 := h (n + 1) (by omega) (Nat.le_refl _)
    have := ih (ids.erase ((n + 1 : Nat) : Int)) (fun m hm hm' => (List.mem_erase_of_ne (by omega)).2 (h m hm (by omega)))
    rw [List.length_erase_of_mem h1] at this
    have : 0 < ids.length := List.length_pos_of_mem h1
    omega

theorem zeroB (w : World) : (zeroValue 4).run Tryz.prog w = .ok (.bool false) w := by kernel_rfl

set_option maxHeartbeats 1000000 in
theorem unused_any (b off c : Nat) (xs : List Int) (w : World) (hbig : xs.length ≤ 1000000000) (hc : CellsI w b off xs) :
    Calls Tryz.prog 25 #[.slice (some ⟨b, off, none⟩) xs.length c] w fun e w' => (∃ r, e = .returned (.int .i64 r) ∧ IsLeast xs r) ∧ Below w.heap.size w w' := by
  obtain ⟨n, hn⟩ : ∃ n, xs.length = n := ⟨_, rfl⟩
  rw [hn] at hbig ⊢
  have HN := Lib.hid hn
  have HC := Lib.hid hc
  clear hn hc
  have hmm := @run_makeMap Tryz.prog
  go_enter Tryz.func25, Tryz.ntmps25
  go_wp2
  go_loopg [10] n (fun gg s10 wr => ∃ kk : Nat, kk ≤ n ∧ n - kk ≤ gg ∧ s10 = .int .i64 kk ∧ Aside (∃ l, MapI wr w.heap.size l ∧ (l.map (·.1)).Nodup ∧ ∀ k, lk l k = if k ∈ xs.take kk then some (.bool true) else none) ∧ Aside (Below w.heap.size w wr))
  case atStart => exact ⟨0, Nat.zero_le _, by omega, rfl, ⟨[], MapI.new _, by simp, by simp [lk]⟩, (Below.refl _ _).alloc (Nat.le_refl _) _⟩
  case round =>
    obtain ⟨kk, hkk, hg, rfl, HM, BW⟩ := hrel
    by_cases hlt : kk < n
    · have hltz : (kk : Int) < (n : Int) := by omega
      have c0 := HC.out.below BW.out kk (by rw [HN.out]; exact hlt)
      have HTK : Aside (∀ k, k ∈ xs.take (kk + 1) ↔ k ∈ xs.take kk ∨ k = xs[kk]!) := fun k => by
        have : kk < xs.length := by rw [HN.out]; exact hlt
        rw [List.take_succ_eq_append_getElem this, getElem!_pos xs kk this, List.mem_append, List.mem_singleton]
      generalize hy : xs[kk]! = y at c0 HTK
      clear hy
      obtain ⟨l, h1, h2, h3⟩ := HM.out
      obtain ⟨w1, hrun, hm1, hg1⟩ := h1.put h2 Tryz.underlying112 Tryz.underlying3 y (.bool true)
      have HM1 : Aside (∃ l, MapI w1 w.heap.size l ∧ (l.map (·.1)).Nodup ∧ ∀ k, lk l k = if k ∈ xs.take (kk + 1) then some (.bool true) else none) := ⟨_, hm1, up_nodup y _ h2, fun k => by
        rw [lk_up, h3 k]
        have e := HTK.out k
        by_cases hk : k = y
        · rw [if_pos hk, if_pos (e.2 (.inr hk))]
        · rw [if_neg hk]
          by_cases hm : k ∈ xs.take kk
          · rw [if_pos hm, if_pos (e.2 (.inl hm))]
          · rw [if_neg hm, if_neg (fun h => (e.1 h).elim hm hk)]⟩
      have BW1 : Aside (Below w.heap.size w w1) := BW.out.grown hg1 BW.out.size (fun k hk => by cases hk; exact Nat.le_refl _)
      clear hm1 hg1 h1 h2 h3 HM HTK BW
      go_wp2_with fail
      go_roundg (n - (kk + 1))
      case measure => omega
      case rel => exact ⟨kk + 1, by omega, by omega, by go_num, HM1, BW1⟩
    · have hltz : ¬ (kk : Int) < (n : Int) := by omega
      have : kk = n := by omega
      subst this
      have HT : Aside (∃ l, MapI wr w.heap.size l ∧ ∀ k, lk l k = if k ∈ xs then some (.bool true) else none) := by
        obtain ⟨l, h1, _, h3⟩ := HM.out
        rw [← HN.out, List.take_length] at h3
        exact ⟨l, h1, h3⟩
      have HL : Aside (xs.length ≤ 1000000000) := by show _ ≤ _; rw [HN.out]; exact hbig
      clear HM HN HC
      go_wp2
      go_loop [6] (fun s6 => ∃ r : Nat, 1 ≤ r ∧ s6 = .int .i64 r ∧ Aside (∀ m : Nat, 1 ≤ m → m < r → (m : Int) ∈ xs)) (fun s6 => xs.length + 2 - (intOf s6).toNat)
      case atStart => exact ⟨1, Nat.le_refl _, rfl, fun m h1 h2 => by omega⟩
      case round =>
        obtain ⟨r, hr, rfl, HR⟩ := hrel
        have HR2 : Aside (r ≤ xs.length + 1) := by
          have := many_in (r - 1) xs (fun m h1 h2 => HR.out m h1 (by omega))
          show _ ≤ _
          omega
        have hb1 : r ≤ 1000000001 := by have := HR2.out; have := HL.out; omega
        obtain ⟨l, h1, h3⟩ := HT.out
        have hrun := h1.get Tryz.underlying112 Tryz.underlying3 (.bool false) zeroB r
        rw [h3] at hrun
        clear h1 h3
        by_cases hin : (r : Int) ∈ xs
        · rw [if_pos hin] at hrun
          simp only [Option.getD_some] at hrun
          have HIN : Aside ((r : Int) ∈ xs) := hin
          clear hin
          go_wp2
          go_round
          case rel => exact ⟨r + 1, by omega, by go_num, fun m h1 h2 => by
            by_cases e : m = r
            · subst e; exact HIN.out
            · exact HR.out m h1 (by omega)⟩
          case measure =>
            have := HR2.out
            simp [intOf]
            omega
        · rw [if_neg hin] at hrun
          simp only [Option.getD_none] at hrun
          have HIN : Aside (¬ (r : Int) ∈ xs) := hin
          clear hin
          go_wp2
          go_ret
          refine ⟨⟨r, rfl, by omega, HIN.out, fun m h1 h2 => ?_⟩, BW.out⟩
          have := HR.out m.toNat (by omega) (by omega)
          rwa [Int.toNat_of_nonneg (by omega)] at this

set_option maxHeartbeats 400000 in
theorem nodeIDs_nil (a : Option Addr) (c : Nat) (ev : Value) (w : World) :
    Calls Tryz.prog 73 #[.agg #[.slice a 0 c, ev]] w fun e w' => e = .returned (.slice none 0 0) ∧ Below w.heap.size w w' := by
  go_enter Tryz.func73, Tryz.ntmps73
  go_wp2
  refine wp_loop_rounds 1 ?_
  rw [rounds_succ]
  go_wp2
  go_ret
  exact ⟨rfl, (Below.refl _ _).alloc (Nat.le_refl _) _⟩

set_option maxHeartbeats 400000 in
theorem unused_nil (a : Option Addr) (c : Nat) (w : World) :
    Calls Tryz.prog 25 #[.slice a 0 c] w fun e w' => e = .returned (.int .i64 1) ∧ Below w.heap.size w w' := by
  have hmm := @run_makeMap Tryz.prog
  have hrun : ∀ W : World, MapI W w.heap.size [] → (Instr.lookup 112 (.map (some w.heap.size)) (.int .i64 1) false).run Tryz.prog W = .ok (.bool false) W := fun W h => h.get Tryz.underlying112 Tryz.underlying3 (.bool false) zeroB 1
  have h1 := hrun _ (MapI.new w)
  clear hrun
  go_enter Tryz.func25, Tryz.ntmps25
  go_wp2
  refine wp_loop_rounds 1 ?_
  rw [rounds_succ]
  go_wp2
  refine wp_loop_rounds 1 ?_
  rw [rounds_succ]
  go_wp2
  go_ret
  exact ⟨rfl, (Below.refl _ _).alloc (Nat.le_refl _) _⟩

set_option maxHeartbeats 400000 in
theorem has_any (b off c : Nat) (xs : List Int) (y : Int) (w : World) (hbig : xs.length ≤ 1000000000) (hc : CellsI w b off xs) :
    Calls Tryz.prog 72 #[.slice (some ⟨b, off, none⟩) xs.length c, .int .i64 y] w fun e w' => e = .returned (.bool (decide (y ∈ xs))) ∧ w = w' := by
  obtain ⟨n, hn⟩ : ∃ n, xs.length = n := ⟨_, rfl⟩
  rw [hn] at hbig ⊢
  have HN := Lib.hid hn
  have HC := Lib.hid hc
  clear hn hc
  go_enter Tryz.func72, Tryz.ntmps72
  go_wp2
  go_loop [5] (fun s5 => ∃ kk : Nat, kk ≤ n ∧ s5 = .int .i64 kk ∧ Aside (∀ j, j < kk → ¬ xs[j]! = y)) (fun s5 => n - (intOf s5).toNat)
  case atStart => exact ⟨0, Nat.zero_le _, rfl, fun j hj => absurd hj (Nat.not_lt_zero _)⟩
  case round =>
    obtain ⟨kk, hkk, rfl, A⟩ := hrel
    by_cases hlt : kk < n
    · have hltz : (kk : Int) < (n : Int) := by omega
      have c0 := HC.out kk (by rw [HN.out]; exact hlt)
      generalize hy : xs[kk]! = z at c0
      have B : Aside (xs[kk]! = z) := hy
      clear hy
      by_cases hz : z = y
      · have hz' : (z == y) = true := beq_iff_eq.2 hz
        have Z : Aside (z = y) := hz
        clear hz
        go_wp2
        go_ret
        refine ⟨ret_bool ?_, rfl⟩
        symm
        rw [decide_eq_true_eq, ← Z.out, ← B.out]
        have : kk < xs.length := by rw [HN.out]; exact hlt
        rw [getElem!_pos xs kk this]
        exact List.getElem_mem _
      · have hz' : (z == y) = false := beq_eq_false_iff_ne.2 hz
        have Z : Aside (¬ z = y) := hz
        clear hz
        go_wp2
        go_round
        case rel => exact ⟨kk + 1, by omega, by go_num, fun j hj => by
          by_cases e : j = kk
          · subst e; rw [B.out]; exact Z.out
          · exact A.out j (by omega)⟩
        case measure => simp [intOf]; omega
    · have hltz : ¬ (kk : Int) < (n : Int) := by omega
      have : kk = n := by omega
      subst this
      go_wp2
      go_ret
      refine ⟨ret_bool ?_, rfl⟩
      symm
      rw [decide_eq_false_iff_not]
      intro hm
      obtain ⟨j, hj, e⟩ := List.mem_iff_getElem.1 hm
      refine A.out j (by rw [← HN.out]; exact hj) ?_
      rw [getElem!_pos xs j hj, e]

set_option maxHeartbeats 400000 in
theorem has_nil (a : Option Addr) (c : Nat) (y : Int) (w : World) :
    Calls Tryz.prog 72 #[.slice a 0 c, .int .i64 y] w fun e w' => e = .returned (.bool false) ∧ w = w' := by
  go_enter Tryz.func72, Tryz.ntmps72
  go_wp2
  refine wp_loop_rounds 1 ?_
  rw [rounds_succ]
  go_wp2
  go_ret
  exact ⟨rfl, rfl⟩
end Go.Proofs.YtnpfoicniodobaaGreat
