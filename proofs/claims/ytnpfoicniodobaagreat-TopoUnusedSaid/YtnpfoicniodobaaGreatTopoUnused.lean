/-
  THE SHELL OF A PROOF OF 'Rows.TopoUnusedSaid' ('terrier/terrierlaw17.TopoUnused'), WRITTEN BY PROGRAM (proof-skeleton.mjs, third state) off the guide's own print for that function. Not trusted: Lean checks it.
  YOURS IS THE HOLE MARKED 'HOLE' (it bears 'sorry'). ALL ELSE IS THE GUIDE's OWN WAY (howto/template/XProofs.lean; Derived/Test/ChunkProofs.lean for 'Below') at this function's number and types: leave it.
-/
import Derived.Test.YtnpfoicniodobaaGreatRows
import Derived.Test.YtnpfoicniodobaaGreatE3
import Derived.Test.YtnpfoicniodobaaGreatE5
import Derived.WalkKit
import Derived.ProofKit
import Derived.OpenShut
import Derived.ShutString
import Derived.ChangeOld
import Derived.Below
namespace Go.Proofs.YtnpfoicniodobaaGreat.topoUnused
open Go.ChangeShapes Go.WideShapes Go.ChangeAt Go.RowKit
open Go.ChangeMaps (open_string shut_string)
set_option linter.unusedVariables false

theorem own : ownKnob Tryz.prog.godebug = none := by kernel_rfl
theorem laidOut : laidOutB Tryz.prog = true := by kernel_rfl

/-- WHAT THE WALK IS TOLD OF A SLICE OF INTEGERS THAT CAME IN: it is nil; or it leads to a row of 'cap' cells, the numbers 'zs' (the first 'len' are its elements, the rest its spare room), each fitting its kind. -/
def IsRow (k : IntKind) (w : World) (a : Option Addr) (len cap : Nat) (zs : List Int) : Prop :=
  (a = none ∧ len = 0 ∧ cap = 0 ∧ zs = []) ∨
  ∃ x, a = some x ∧ len ≤ cap ∧ cap ≤ maxLen ∧ zs.length = cap ∧ (∀ i, i < zs.length → w.cell? (x.add i) = some (.int k (zs.getD i 0))) ∧ ∀ n ∈ zs, (Lit.int k n).wf = true

theorem mapOf_sn (nv : Value) (zs : List Nd) (w : World) (hbig : zs.length ≤ 1000000000) (h : SN w nv zs) : Calls Tryz.prog 67 #[.agg #[nv, .slice none 0 0]] w fun e w' => (∃ M, e = .returned (.pointer (some ⟨M, 0, none⟩)) ∧ Map0 w' M) ∧ Below w.heap.size w w' := by
  rcases h with ⟨rfl, rfl⟩ | ⟨b, off, c, rfl, hc⟩
  · exact mapOf0_nil w
  · exact mapOf0 b off c zs w hbig hc

/-! ### STEP 1: THE WALK: the Go text returns true, AND WRITES NOTHING THAT WAS THERE: 'Below w.heap.size w w'' (Derived/Below.lean: '.refl', '.alloc', '.drew', '.setCell' at a new block, '.trans'). Open each 'IsRow' by 'rcases' AHEAD of 'go_enter'; part every test ahead of the walk. -/
theorem walk (a0 : Option Addr) (len0 cap0 : Nat) (z0 : List Int) (w : World) (w0 : IsRow .i64 w a0 len0 cap0 z0) :
    Calls Tryz.prog 6 #[.slice a0 len0 cap0] w fun e w' => e = .returned (.bool true) ∧ Below w.heap.size w w' := by
  refine topoUnused_true (fun q w => faceAt0 mapOf_sn _ [] q w (by simp) (.inl ⟨rfl, rfl⟩)) w len0 cap0 a0 (z0.take len0) ?_ ?_
  · rcases w0 with ⟨rfl, rfl, rfl, rfl⟩ | ⟨x, rfl, h1, h2, h3, h4, h5⟩
    · rfl
    · simp [h3]; omega
  · intro hpos
    rcases w0 with ⟨rfl, rfl, rfl, rfl⟩ | ⟨x, rfl, h1, h2, h3, h4, h5⟩
    · omega
    · have h0 := h4 0 (by omega)
      obtain ⟨b, o, s⟩ := x
      have hs : s = none := by
        cases s with
        | none => rfl
        | some s => simp [Addr.add, World.cell?] at h0; split at h0 <;> simp at h0
      subst hs
      refine ⟨b, o, rfl, fun j hj => ?_⟩
      have hj2 : j < len0 := by simp at hj; omega
      have := h4 j (by omega)
      have hadd : (⟨b, o, none⟩ : Addr).add j = ⟨b, o + j, none⟩ := by unfold Addr.add; split <;> simp_all
      rw [hadd] at this
      rw [this, getElem!_pos (z0.take len0) j hj, List.getElem_take, List.getD_eq_getElem?_getD, List.getElem?_eq_getElem (by omega)]
      rfl

/-! ### THE ROW's STEP: WRITTEN OUT: LEAVE IT -/
set_option maxRecDepth 100000 in
theorem lifted (os : Os) (started : os.Started) (H : Type) (enc : TypeId × Value → H) :
    ReturnsInHanded {} Tryz.checked os 6 .any (Rows.topoUnusedSpec.pre6 enc Tryz.prog Tryz.f6 Rows.topoUnusedRow.domain false) (Rows.topoUnusedSpec.post enc Tryz.prog Tryz.f6 false true false false) := by
  refine returnsInHanded_of_change (C := Tryz.checked) own started (by kernel_rfl) Tryz.func6
    (ChangeSpec.witness6 (enc := enc) (C := Tryz.checked) false ⟨#[], #[.slice none 0 0], []⟩ 8 (by kernel_rfl) (by kernel_rfl) (by kernel_rfl) (by kernel_rfl)) ?_
  intro W base args ds gs before hval0 hW hcnd _
  have hval : ∀ (j : Nat) t v, Tryz.f6.params[j]? = some t → args[j]? = some v → Value.okWide Tryz.prog W .any base t v := hval0
  have hW' := hW
  obtain ⟨p, q, hA0, hV, rfl, hfz, hnd⟩ := hW
  have hA : DataW.TrodAll enc Tryz.prog W 0 (fun _ => true) true Tryz.f6.params.toList args.toList ds p := hA0
  rw [Tryz.params6] at hA hval
  obtain ⟨v0, vs0, d0, ds0, p0, q0, hargs, rfl, rfl, h0, r0⟩ := trodAll_cons hA
  obtain ⟨rfl, rfl, rfl⟩ := trodAll_nil r0
  obtain rfl : args = #[v0] := by cases args; simp_all
  obtain ⟨rfl, rfl⟩ := trodVars_none hV
  obtain ⟨a0, len0, cap0, rfl⟩ := okWide_slice Tryz.underlying42 (hval 0 42 v0 rfl rfl)
  have k0 := h0
  have lt0 : ∀ x ∈ p0, x.block < W.heap.size := by obtain ⟨m, hm⟩ := k0; exact DataW.trod_lt m _ _ _ hm
  obtain ⟨z0, w0⟩ : ∃ zs, IsRow .i64 W a0 len0 cap0 zs := by
    obtain ⟨fuel, hf⟩ := h0
    rcases open_ints Tryz.underlying42 Tryz.underlying3 (by kernel_rfl) hf with ⟨hcs, _⟩ | ⟨x, l, c, zs, hcs, _, hl, hm, hz, _, hcell, hwz⟩
    · simp [Value.cells] at hcs
      obtain ⟨rfl, rfl, rfl⟩ := hcs
      exact ⟨[], .inl ⟨rfl, rfl, rfl, rfl⟩⟩
    · simp [Value.cells] at hcs
      obtain ⟨rfl, rfl, rfl⟩ := hcs
      exact ⟨zs, .inr ⟨_, rfl, hl, hm, by simpa using hz, hcell, hwz⟩⟩
  clear hA0 hval0
  refine (walk a0 len0 cap0 z0 W w0).mono fun e W' ⟨he, bel⟩ => ?_
  subst he
  exact ⟨_, rfl, _, _, _, [], _, [], hW', trodAll_mk1 (shut_bool Tryz.underlying4 _), (trodAll_cons_mk (Below.trod laidOut (by kernel_rfl) (of_decide_eq_true (by kernel_rfl)) k0 bel lt0) trodAll_mk0), rfl, bel.frame _, fun h => by cases h⟩

theorem andb {a b : Bool} (ha : a = true) (hb : b = true) : (a && b) = true := by rw [ha, hb]; rfl
theorem cl1 : (Rows.topoUnusedRow.wf (OpenSpec.ofChange Rows.topoUnusedSpec)) = true := by kernel_rfl
theorem cl2 : (laidOutB Tryz.prog) = true := by kernel_rfl
theorem cl3 : (mapsRowed Tryz.prog) = true := by kernel_rfl
theorem cl4 : (Tryz.f6.params.all (Tryz.prog.readableRec ·)) = true := by kernel_rfl
theorem cl5 : (namedTie Tryz.prog Rows.topoUnusedRow.named Rows.topoUnusedSpec.vars) = true := by kernel_rfl
theorem cl6 : ((Rows.topoUnusedRow.stops == [])) = true := by kernel_rfl
theorem cl7 : ((Tryz.prog.stops == [])) = true := by kernel_rfl
theorem cl8 : ((Rows.topoUnusedRow.knobs == [])) = true := by kernel_rfl
theorem cl9 : ((Tryz.prog.stopKnobs == [])) = true := by kernel_rfl
theorem cl10 : ((Rows.topoUnusedRow.inPlace == Tryz.prog.inPlace 6)) = true := by kernel_rfl
theorem cl11 : ((Rows.topoUnusedRow.unfollowed == Tryz.prog.unfollowed 6)) = true := by kernel_rfl
theorem cl12 : ((Rows.topoUnusedRow.recurses == Tryz.prog.recurses 6)) = true := by kernel_rfl
theorem cl13 : ((Rows.topoUnusedRow.named == Tryz.prog.varsNamed 6)) = true := by kernel_rfl
theorem cl14 : ((Rows.topoUnusedRow.maps == (Tryz.f6.params.toList ++ Rows.topoUnusedSpec.plain.varTypes Tryz.prog).any (Tryz.prog.mapsRec ·))) = true := by kernel_rfl
theorem cl15 : ((Rows.topoUnusedRow.ifaces == (Tryz.f6.params.toList ++ Rows.topoUnusedSpec.plain.varTypes Tryz.prog).any (Tryz.prog.ifacesRec ·))) = true := by kernel_rfl
theorem cl16 : ((Rows.topoUnusedRow.mapsOut == Tryz.prog.mapsAmong Tryz.f6.resultTypes.toList)) = true := by kernel_rfl
theorem cl17 : ((Rows.topoUnusedRow.loops == (Tryz.f6.params.toList ++ Rows.topoUnusedSpec.plain.varTypes Tryz.prog).any (Tryz.prog.loopsFrom ·))) = true := by kernel_rfl
theorem cl18 : ((Rows.topoUnusedRow.wideKeys == (Tryz.f6.params.toList ++ Rows.topoUnusedSpec.plain.varTypes Tryz.prog ++ Tryz.f6.resultTypes.toList).any (Tryz.prog.wideKeysFrom ·))) = true := by kernel_rfl
theorem cl19 : (Rows.topoUnusedSpec.vars.all (Tryz.prog.varReadable ·)) = true := by kernel_rfl
theorem cl20 : (Tryz.f6.resultTypes.all (fun t => Tryz.prog.readableRec t && decide (t < Tryz.prog.types.size))) = true := by kernel_rfl
theorem cl21 : ((Rows.topoUnusedRow.ifacesOut == Tryz.f6.resultTypes.toList.any (Tryz.prog.ifacesRec ·))) = true := by kernel_rfl
theorem cl22 : ((Rows.topoUnusedRow.loopsOut == Tryz.f6.resultTypes.toList.any (Tryz.prog.loopsFrom ·))) = true := by kernel_rfl
theorem cl23 : ((Rows.topoUnusedRow.plainKeys == Tryz.prog.plainKeys)) = true := by kernel_rfl
theorem cl24 : (Rows.topoUnusedRow.shortTexts.isNone) = true := by kernel_rfl
theorem cl25 : (Tryz.prog.stopsHeard) = true := by kernel_rfl
theorem cl26 : (Tryz.prog.mayEnter) = true := by kernel_rfl
theorem cl27 : ((Rows.topoUnusedRow.lifted == Tryz.prog.liftsFinal)) = true := by kernel_rfl
theorem cl28 : ((Tryz.prog.make == some Rows.topoUnusedRow.make)) = true := by kernel_rfl
theorem cl30 : ((Rows.topoUnusedRow.pinned == Rows.topoUnusedRow.pinnedBy)) = true := by kernel_rfl
theorem cl31 : ((Rows.topoUnusedRow.veiled == (Tryz.f6.params.toList ++ Rows.topoUnusedSpec.plain.varTypes Tryz.prog ++ Tryz.f6.resultTypes.toList).any (Tryz.prog.veiledRec ·))) = true := by kernel_rfl
theorem cl32 : (Rows.topoUnusedRow.veiledFits Tryz.prog Tryz.f6.params.toList (Tryz.f6.params.toList ++ Rows.topoUnusedSpec.plain.varTypes Tryz.prog ++ Tryz.f6.resultTypes.toList)) = true := by kernel_rfl
theorem closed : joinedFacts Tryz.prog 6 Tryz.f6 Rows.topoUnusedSpec Rows.topoUnusedRow = true := by
  unfold joinedFacts
  exact (andb (andb (andb (andb (andb (andb (andb (andb (andb (andb (andb (andb (andb (andb (andb (andb (andb (andb (andb (andb (andb (andb (andb (andb (andb (andb (andb (andb (andb (andb (andb cl1 cl2) cl3) cl4) cl5) cl6) cl7) cl8) cl9) cl10) cl11) cl12) cl13) cl14) cl15) cl16) cl17) cl18) cl19) cl20) cl21) cl22) cl23) cl24) cl25) cl26) cl27) cl28) (by kernel_rfl)) cl30) cl31) cl32)
theorem named : Tryz.prog.funcNamed Rows.topoUnusedRow.func = some 6 := by kernel_rfl
theorem inst : Tryz.f6.isInstance Tryz.prog Rows.topoUnusedRow.origin Rows.topoUnusedRow.targs := of_decide_eq_true (by kernel_rfl)
theorem wrapped : Tryz.f6.isWrapper Tryz.prog Rows.topoUnusedRow.wrapper Rows.topoUnusedRow.mainSum := by unfold Func.isWrapper; first | (rw [if_pos (by decide +kernel)]; kernel_rfl) | (rw [if_neg (by decide +kernel)]; exact ⟨rfl, rfl⟩)

theorem over : Rows.topoUnusedRow.holds Tryz.pinned (OpenSpec.ofChange Rows.topoUnusedSpec) :=
  OpenClaim.holds_of_wide 6 Tryz.f6 rfl rfl rfl rfl rfl rfl rfl ⟨rfl, rfl, rfl, rfl, rfl⟩ rfl rfl rfl rfl rfl named Tryz.func6 closed inst wrapped
    (fun os started H enc _ => lifted os started H enc)

/-- ████ THE STATEMENT ████ -/
theorem proved : Rows.TopoUnusedSaid := over
#print axioms proved
end Go.Proofs.YtnpfoicniodobaaGreat.topoUnused
