/- The document's least number that is not used. -/
import Derived.Test.YtnpfoicniodobaaGreatTu
namespace Go.Proofs.YtnpfoicniodobaaGreat
open Go.RowKit

set_option maxHeartbeats 1000000 in
theorem refUnused_any (v : Value) (xs : List Int) (w : World) (hbig : xs.length ≤ 1000000000) (hv : (v = .slice none 0 0 ∧ xs = []) ∨ ∃ b off c, v = .slice (some ⟨b, off, none⟩) xs.length c ∧ CellsI w b off xs) :
    Calls Tryz.prog 26 #[v, .int .i64 0, .int .i64 0] w fun e w' => (∃ r, e = .returned (.int .i64 r) ∧ IsLeast xs r) ∧ w = w' := by
  have hcall : ∀ y, Calls Tryz.prog 72 #[v, .int .i64 y] w fun e w' => e = .returned (.bool (decide (y ∈ xs))) ∧ w = w' := by
    intro y
    rcases hv with ⟨rfl, rfl⟩ | ⟨b, off, c, rfl, hc⟩
    · exact (has_nil _ _ _ _).mono (fun e w' h => by simpa using h)
    · exact has_any b off c xs y w hbig hc
  have HC := Lib.hid hcall
  have HL : Aside (xs.length ≤ 1000000000) := hbig
  clear hcall hv hbig
  go_enter Tryz.func26, Tryz.ntmps26
  go_wp2
  go_loop [7] (fun s6 => ∃ r : Nat, 1 ≤ r ∧ s6 = .int .i64 r ∧ Aside (∀ m : Nat, 1 ≤ m → m < r → (m : Int) ∈ xs)) (fun s6 => xs.length + 2 - (intOf s6).toNat)
  case atStart => exact ⟨1, Nat.le_refl _, rfl, fun m h1 h2 => by omega⟩
  case round =>
    obtain ⟨r, hr, rfl, HR⟩ := hrel
    have HR2 : Aside (r ≤ xs.length + 1) := by
      have := many_in (r - 1) xs (fun m h1 h2 => HR.out m h1 (by omega))
      show _ ≤ _
      omega
    have hb1 : r ≤ 1000000001 := by have := HR2.out; have := HL.out; omega
    by_cases hin : (r : Int) ∈ xs
    · have HIN : Aside ((r : Int) ∈ xs) := hin
      have hcall := HC.out r
      rw [decide_eq_true hin] at hcall
      clear hin
      go_wp2_with fail
      refine hcall.mono ?_
      rintro e w' ⟨rfl, rfl⟩
      go_wp2_with fail
      go_round
      case rel => exact ⟨r + 1, by omega, by go_num, fun m h1 h2 => by
        by_cases e : m = r
        · subst e; exact HIN.out
        · exact HR.out m h1 (by omega)⟩
      case measure =>
        have := HR2.out
        simp [intOf]
        omega
    · have HIN : Aside (¬ (r : Int) ∈ xs) := hin
      have hcall := HC.out r
      rw [decide_eq_false hin] at hcall
      clear hin
      have h0 : ((r : Int) == 0) = false := beq_eq_false_iff_ne.2 (by omega)
      go_wp2_with fail
      refine hcall.mono ?_
      rintro e w' ⟨rfl, rfl⟩
      go_wp2_with fail
      go_ret
      refine ⟨⟨r, rfl, by omega, HIN.out, fun m h1 h2 => ?_⟩, rfl⟩
      have := HR.out m.toNat (by omega) (by omega)
      rwa [Int.toNat_of_nonneg (by omega)] at this
end Go.Proofs.YtnpfoicniodobaaGreat
