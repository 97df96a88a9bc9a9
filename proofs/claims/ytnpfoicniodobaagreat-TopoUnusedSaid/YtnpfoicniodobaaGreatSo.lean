/- slices.Sort of numbers in a row of the call's own. -/
import Derived.Test.YtnpfoicniodobaaGreatAp
import Derived.Test.YtnpfoicniodobaaGreatShelf
import Derived.Sort.OwnSortedInts
namespace Go.Proofs.YtnpfoicniodobaaGreat
open Go.RowKit Go.Sort

def sortI (xs : List Int) : List Int := xs.mergeSort fun x y => decide (x ≤ y)

theorem sort_own (base : Nat) (v : Value) (xs : List Int) (w : World) (h : w.ownsRow base 3 1 v xs.length (ints xs)) (hl : xs.length ≤ 1000000000) :
    Calls Tryz.prog 146 #[v] w fun e w' => e = .returned (.tuple #[]) ∧ w'.ownsRow base 3 1 v xs.length (ints (sortI xs)) ∧ w.grownBy w' v.ownBlock := by
  rcases h.2 with ⟨rfl, h0⟩ | ⟨g, cap, cur, rfl, hb, hg, hnc, hcm, hcs, htake⟩
  · rw [h0]
    refine (Tryz.slices_Sort_int_none none 0 w).mono ?_
    rintro e w' ⟨rfl, rfl⟩
    have : xs = [] := List.eq_nil_of_length_eq_zero h0
    subst this
    exact ⟨rfl, by simpa [sortI, ints] using h, ⟨rfl, rfl, rfl, Nat.le_refl _, fun _ _ _ => rfl⟩⟩
  · rw [Nat.mul_one] at htake
    refine (Tryz.slices_Sort_int g 0 cap xs w (holds_of_blockI hg htake) (Array.getElem?_eq_some_iff.1 hg).1 (by omega)).mono ?_
    rintro e w' ⟨rfl, n, os, rfl⟩
    have hlen : (sortI xs).length = xs.length := by simp [sortI]
    exact ⟨rfl, ownsRow_sortedI hlen hb hg hnc hcm hcs, grownBy_sortedI _⟩
end Go.Proofs.YtnpfoicniodobaaGreat
