/- slices.IndexFunc and slices.ContainsFunc, at elements of kind E: the first place at which a predicate holds; whether it holds anywhere. -/
import Derived.Test.YtnpfoicniodobaaGreatB
namespace Go.Proofs.YtnpfoicniodobaaGreat
open Go.RowKit

set_option maxHeartbeats 1000000 in
theorem indexE (p : Er → Bool) (g : Nat) (lb : Array Value) (eg : ∀ args w, (callFunc g args).run Tryz.prog w = .ok (.enter g args) w) (b off c : Nat) (zs : List Er) (w : World)
    (hp : PredBelow Tryz.prog g lb vE p w) (hbig : zs.length ≤ 1000000000)
    (hc : CellsE w b off zs) :
    Calls Tryz.prog 115 #[.slice (some ⟨b, off, none⟩) zs.length c, .func (.func g) #[] lb] w fun e w' => e = .returned (.int .i64 (idx p zs)) ∧ Below w.heap.size w w' := by
  obtain ⟨n, hn⟩ : ∃ n, zs.length = n := ⟨_, rfl⟩
  rw [hn] at hbig ⊢
  have HN := Lib.hid hn
  have HC := Lib.hid hc
  clear hn hc
  go_enter Tryz.func115, Tryz.ntmps115
  go_wp2
  go_loopg [5, 8] n (fun gg _ s8 wr => ∃ kk : Nat, kk ≤ n ∧ n - kk ≤ gg ∧ s8 = .int .i64 kk ∧ Aside (Below w.heap.size w wr) ∧ Aside (∀ j, j < kk → p zs[j]! = false))
  case atStart => exact ⟨0, Nat.zero_le _, by omega, rfl, Below.refl _ w, fun j hj => absurd hj (Nat.not_lt_zero _)⟩
  case round =>
    obtain ⟨kk, hkk, hg, rfl, BW, A⟩ := hrel
    by_cases hlt : kk < n
    · have hltz : (kk : Int) < (n : Int) := by omega
      obtain ⟨c0, c1, c2, c3, c4, c5⟩ := HC.out.below BW.out kk (by rw [HN.out]; exact hlt)
      have hcall := hp wr zs[kk]! BW.out
      clear hp
      generalize hy : zs[kk]! = y at c0 c1 c2 c3 c4 c5 hcall
      have B : Aside (zs[kk]! = y) := hy
      clear hy
      simp only [vE] at hcall
      cases hq : p y with
      | true =>
        rw [hq] at hcall
        go_wp2_with fail
        refine hcall.mono ?_
        rintro e w' ⟨rfl, hb'⟩
        go_wp2_with fail
        go_ret
        refine ⟨?_, hb'⟩
        rw [idx_hit p zs kk (by rw [HN.out]; exact hlt) (by rw [B.out]; exact hq) A.out]
        rfl
      | false =>
        rw [hq] at hcall
        go_wp2_with fail
        refine hcall.mono ?_
        rintro e w' ⟨rfl, hb'⟩
        go_wp2_with fail
        go_roundg (n - (kk + 1))
        case measure => omega
        case rel =>
          refine ⟨kk + 1, by omega, by omega, by go_num, hb', (show Aside _ from fun j hj => ?_)⟩
          by_cases e : j = kk
          · subst e
            rw [B.out]; exact hq
          · exact A.out j (by omega)
    · have hltz : ¬ (kk : Int) < (n : Int) := by omega
      have : kk = n := by omega
      subst this
      go_wp2
      go_ret
      refine ⟨?_, BW.out⟩
      rw [idx_miss p zs (by rw [HN.out]; exact A.out)]
      rfl

set_option maxHeartbeats 400000 in
theorem indexE_nil (f : Value) (a : Option Addr) (c : Nat) (w : World) :
    Calls Tryz.prog 115 #[.slice a 0 c, f] w fun e w' => e = .returned (.int .i64 (-1)) ∧ w = w' := by
  go_enter Tryz.func115, Tryz.ntmps115
  go_wp2
  refine wp_loop_rounds 1 ?_
  rw [rounds_succ]
  go_wp2
  go_ret
  exact ⟨rfl, rfl⟩

set_option maxHeartbeats 400000 in
theorem containsE_nil (f : Value) (a : Option Addr) (c : Nat) (w : World) :
    Calls Tryz.prog 77 #[.slice a 0 c, f] w fun e w' => e = .returned (.bool false) ∧ w = w' := by
  go_enter Tryz.func77, Tryz.ntmps77
  go_wp2_with fail
  refine (indexE_nil _ _ _ _).mono ?_
  rintro e w' ⟨rfl, rfl⟩
  go_wp2_with fail
  go_ret
  exact ⟨rfl, rfl⟩

set_option maxHeartbeats 400000 in
theorem containsE (p : Er → Bool) (g : Nat) (lb : Array Value) (eg : ∀ args w, (callFunc g args).run Tryz.prog w = .ok (.enter g args) w) (b off c : Nat) (zs : List Er) (w : World)
    (hp : PredBelow Tryz.prog g lb vE p w) (hbig : zs.length ≤ 1000000000)
    (hc : CellsE w b off zs) :
    Calls Tryz.prog 77 #[.slice (some ⟨b, off, none⟩) zs.length c, .func (.func g) #[] lb] w fun e w' => e = .returned (.bool (zs.any p)) ∧ Below w.heap.size w w' := by
  rw [← idx_any p zs]
  go_enter Tryz.func77, Tryz.ntmps77
  go_wp2_with fail
  refine (indexE p g lb eg b off c zs _ hp hbig hc).mono ?_
  rintro e w' ⟨rfl, hb'⟩
  go_wp2_with fail
  go_ret
  exact ⟨rfl, hb'⟩
end Go.Proofs.YtnpfoicniodobaaGreat
