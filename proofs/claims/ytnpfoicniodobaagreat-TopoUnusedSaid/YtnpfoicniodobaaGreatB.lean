/- The base: points, nodes and edges as they lie in memory; what is asked of a predicate; where it first holds. -/
import Derived.Test.YtnpfoicniodobaaGreatProg
import Derived.WalkKit
import Derived.WalkSpells
import Derived.WalkLawsBesides
import Derived.Deep.QuietTactic
import Derived.BigQuiet
import Derived.IntWalk
import Derived.Deep.LoopGhost
import Derived.Laws.AppendOwn
import Derived.Deep.Light
import Derived.Deep.DeepFit
import Derived.Lib.Hide
namespace Go.Proofs.YtnpfoicniodobaaGreat
open Go.RowKit

structure Pt where
  x : Int
  y : Int
  deriving DecidableEq, Inhabited
structure Nd where
  id : Int
  x : Int
  y : Int
  face : Int
  deriving DecidableEq, Inhabited
/-- An edge as its cells are: the line as the slice's value. -/
structure Er where
  id : Int
  st : Int
  en : Int
  ln : Value
  lf : Int
  rt : Int
  deriving Inhabited

def vP (p : Pt) : Value := .agg #[.int .i64 p.x, .int .i64 p.y]
def vN (n : Nd) : Value := .agg #[.int .i64 n.id, .int .i64 n.x, .int .i64 n.y, .int .i64 n.face]
def vE (e : Er) : Value := .agg #[.int .i64 e.id, .int .i64 e.st, .int .i64 e.en, e.ln, .int .i64 e.lf, .int .i64 e.rt]
def vI (n : Int) : Value := .int .i64 n

def CellsP (w : World) (b off : Nat) (zs : List Pt) : Prop :=
  ∀ j, j < zs.length → w.cell? ⟨b, off + j * 2, none⟩ = some (.int .i64 zs[j]!.x) ∧ w.cell? ⟨b, off + j * 2 + 1, none⟩ = some (.int .i64 zs[j]!.y)
def CellsN (w : World) (b off : Nat) (zs : List Nd) : Prop :=
  ∀ j, j < zs.length → w.cell? ⟨b, off + j * 4, none⟩ = some (.int .i64 zs[j]!.id) ∧ w.cell? ⟨b, off + j * 4 + 1, none⟩ = some (.int .i64 zs[j]!.x) ∧ w.cell? ⟨b, off + j * 4 + 2, none⟩ = some (.int .i64 zs[j]!.y) ∧ w.cell? ⟨b, off + j * 4 + 3, none⟩ = some (.int .i64 zs[j]!.face)
def CellsE (w : World) (b off : Nat) (zs : List Er) : Prop :=
  ∀ j, j < zs.length → w.cell? ⟨b, off + j * 6, none⟩ = some (.int .i64 zs[j]!.id) ∧ w.cell? ⟨b, off + j * 6 + 1, none⟩ = some (.int .i64 zs[j]!.st) ∧ w.cell? ⟨b, off + j * 6 + 2, none⟩ = some (.int .i64 zs[j]!.en) ∧ w.cell? ⟨b, off + j * 6 + 3, none⟩ = some zs[j]!.ln ∧ w.cell? ⟨b, off + j * 6 + 4, none⟩ = some (.int .i64 zs[j]!.lf) ∧ w.cell? ⟨b, off + j * 6 + 5, none⟩ = some (.int .i64 zs[j]!.rt)
def CellsI (w : World) (b off : Nat) (zs : List Int) : Prop :=
  ∀ j, j < zs.length → w.cell? ⟨b, off + j, none⟩ = some (.int .i64 zs[j]!)

theorem cell_below {w w1 : World} (hb : Below w.heap.size w w1) {a : Addr} {v : Value} (hc : w.cell? a = some v) : w1.cell? a = some v := (hb.cell (World.block_lt_of_cell? w a hc)).trans hc
theorem CellsP.below {w w' : World} {b off : Nat} {zs : List Pt} (h : CellsP w b off zs) (hb : Below w.heap.size w w') : CellsP w' b off zs := fun j hj => by
  obtain ⟨a, b'⟩ := h j hj
  exact ⟨cell_below hb a, cell_below hb b'⟩
theorem CellsN.below {w w' : World} {b off : Nat} {zs : List Nd} (h : CellsN w b off zs) (hb : Below w.heap.size w w') : CellsN w' b off zs := fun j hj => by
  obtain ⟨a, b', c, d⟩ := h j hj
  exact ⟨cell_below hb a, cell_below hb b', cell_below hb c, cell_below hb d⟩
theorem CellsE.below {w w' : World} {b off : Nat} {zs : List Er} (h : CellsE w b off zs) (hb : Below w.heap.size w w') : CellsE w' b off zs := fun j hj => by
  obtain ⟨a, b', c, d, e, f⟩ := h j hj
  exact ⟨cell_below hb a, cell_below hb b', cell_below hb c, cell_below hb d, cell_below hb e, cell_below hb f⟩
theorem CellsI.below {w w' : World} {b off : Nat} {zs : List Int} (h : CellsI w b off zs) (hb : Below w.heap.size w w') : CellsI w' b off zs := fun j hj => cell_below hb (h j hj)

/-- What is asked of a predicate that may lay blocks of its own. -/
def PredBelow {α : Type} (P : Program) (g : Nat) (lb : Array Value) (enc : α → Value) (p : α → Bool) (w : World) : Prop :=
  ∀ (W : World) (x : α), Below w.heap.size w W → Calls P g (#[enc x] ++ lb) W fun e w' => e = .returned (.bool (p x)) ∧ Below w.heap.size w w'
theorem PredBelow.later {α : Type} {P : Program} {g : Nat} {lb : Array Value} {enc : α → Value} {p : α → Bool} {w w1 : World} (h : PredBelow P g lb enc p w1) (hb : Below w.heap.size w w1) : ∀ (W : World) (x : α), Below w1.heap.size w1 W → Calls P g (#[enc x] ++ lb) W fun e w' => e = .returned (.bool (p x)) ∧ Below w.heap.size w w' :=
  fun W x hW => (h W x hW).mono fun _ _ ⟨he, h'⟩ => ⟨he, hb.trans (h'.mono hb.size)⟩

def idx {α : Type} (p : α → Bool) : List α → Int
  | [] => -1
  | x :: l => if p x then 0 else (let r := idx p l; if r < 0 then r else r + 1)

theorem idx_hit {α : Type} [Inhabited α] (p : α → Bool) (zs : List α) : ∀ (k : Nat), k < zs.length → p zs[k]! = true → (∀ j, j < k → p zs[j]! = false) → idx p zs = k := by
  induction zs with
  | nil => intro k hk; simp at hk
  | cons x l ih =>
    intro k hk hp hn
    cases k with
    | zero => simp at hp; simp [idx, hp]
    | succ k =>
      have h0 := hn 0 (by omega)
      simp at h0
      have := ih k (by simpa using hk) (by simpa using hp) (fun j hj => by simpa using hn (j+1) (by omega))
      simp only [idx, h0, this]
      simp
      omega
theorem idx_miss {α : Type} [Inhabited α] (p : α → Bool) (zs : List α) (h : ∀ j, j < zs.length → p zs[j]! = false) : idx p zs = -1 := by
  induction zs with
  | nil => rfl
  | cons x l ih =>
    have h0 := h 0 (by simp)
    simp at h0
    have := ih (fun j hj => by simpa using h (j+1) (by simp; omega))
    simp [idx, h0, this]
theorem idx_any {α : Type} (p : α → Bool) : ∀ zs : List α, decide (0 ≤ idx p zs) = zs.any p
  | [] => rfl
  | x :: l => by
    have := idx_any p l
    simp only [idx, List.any_cons]
    cases hp : p x with
    | true => simp
    | false =>
      rw [← this]
      simp
      by_cases h : idx p l < 0
      · simp [h]
      · simp [h]; omega
theorem idx_range {α : Type} (p : α → Bool) : ∀ zs : List α, -1 ≤ idx p zs ∧ idx p zs < zs.length
  | [] => by simp [idx]
  | x :: l => by
    have := idx_range p l
    simp only [idx, List.length_cons]
    cases hp : p x with
    | true => simp
    | false =>
      simp
      by_cases h : idx p l < 0
      · simp [h]; omega
      · simp [h]; omega
theorem idx_none {α : Type} (p : α → Bool) : ∀ zs : List α, idx p zs < 0 ↔ zs.find? p = none
  | [] => by simp [idx]
  | x :: l => by
    have := idx_none p l
    have h1 := idx_range p l
    simp only [idx, List.find?_cons]
    cases hp : p x with
    | true => simp
    | false =>
      simp only [Bool.false_eq_true, if_false]
      rw [← this]
      by_cases h : idx p l < 0
      · simp [h]
      · simp only [if_neg h]; omega
theorem idx_some {α : Type} [Inhabited α] (p : α → Bool) : ∀ (zs : List α) (x : α), zs.find? p = some x → 0 ≤ idx p zs ∧ zs[(idx p zs).toNat]! = x
  | [], x => by simp
  | y :: l, x => by
    intro h
    simp only [idx]
    rw [List.find?_cons] at h
    cases hp : p y with
    | true =>
      rw [hp] at h
      simp at h
      simp [h]
    | false =>
      rw [hp] at h
      simp at h
      obtain ⟨h0, h1⟩ := idx_some p l x h
      have hn : ¬ idx p l < 0 := by omega
      simp only [Bool.false_eq_true, if_false, if_neg hn]
      refine ⟨by omega, ?_⟩
      have : (idx p l + 1).toNat = (idx p l).toNat + 1 := by omega
      rw [this, List.getElem!_cons_succ]
      exact h1

theorem ret_int {k : IntKind} {a b : Int} (h : a = b) : Ending.returned (.int k a) = .returned (.int k b) := by rw [h]
theorem ret_bool {a b : Bool} (h : a = b) : Ending.returned (.bool a) = .returned (.bool b) := by rw [h]
theorem bcell {W w1 : World} (hb : Below W.heap.size W w1) : (∀ b o, b < W.heap.size → w1.cell? ⟨b, o, none⟩ = W.cell? ⟨b, o, none⟩) ∧ (∀ b o, b < W.heap.size → w1.frozen? ⟨b, o, none⟩ = W.frozen? ⟨b, o, none⟩) :=
  ⟨fun b o h => hb.cell (p := ⟨b, o, none⟩) h, fun b o h => hb.frozen (p := ⟨b, o, none⟩) h⟩
theorem below_then {B : Nat} {w w1 w2 : World} (h : Below B w w1) (hB : B ≤ w1.heap.size) (k : Below w1.heap.size w1 w2) : Below B w w2 :=
  h.trans (k.mono hB)
end Go.Proofs.YtnpfoicniodobaaGreat
