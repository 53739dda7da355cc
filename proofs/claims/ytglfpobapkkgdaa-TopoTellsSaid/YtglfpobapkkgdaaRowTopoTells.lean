/- TopoTells: whatever the input, the law returns true, and each argument reads as it did; no condition. -/
import Derived.Test.YtglfpobapkkgdaaRows
import Derived.Test.YtglfpobapkkgdaaTopo15
import Derived.Test.YtglfpobapkkgdaaTopoA
import Derived.WalkKit
import Derived.ProofKit
import Derived.OpenShut
import Derived.ShutString
import Derived.ChangeOld
import Derived.Below
import Derived.SizedLaws
import Derived.Carry
namespace Go.Proofs.Ytglfpobapkkgdaa.topoTells
open Go.ChangeShapes Go.WideShapes Go.ChangeAt Go.RowKit
open Go.ChangeMaps (open_string shut_string)
open Go.Proofs.Ytglfpobapkkgdaa.H Go.Proofs.Ytglfpobapkkgdaa.Open Go.Proofs.YtglfpobapkkgdaaW.PrintWords Go.Proofs.Ytglfpobapkkgdaa.P
set_option linter.unusedVariables false
set_option linter.unusedSimpArgs false
theorem own : ownKnob Try.prog.godebug = none := by kernel_rfl
theorem laidOut : laidOutB Try.prog = true := by kernel_rfl
set_option maxRecDepth 100000 in
theorem lifted (os : Os) (started : os.Started) (H : Type) (enc : TypeId × Value → H) :
    ReturnsInHanded {} Try.checked os 6 .any (Rows.topoTellsSpec.pre6 enc Try.prog Try.f6 Rows.topoTellsRow.domain false) (Rows.topoTellsSpec.post enc Try.prog Try.f6 false true false false) := by
  refine returnsInHanded_of_change_sized (C := Try.checked) own started (by kernel_rfl) Try.func6
    (ChangeSpec.witness6 (enc := enc) (C := Try.checked) false ⟨#[], #[.agg #[.slice none 0 0, .slice none 0 0], .agg #[.slice none 0 0, .slice none 0 0], .agg #[.int .i64 0, .int .i64 0]], []⟩ 8 (by kernel_rfl) (by kernel_rfl) (by kernel_rfl) (by kernel_rfl)) ?_
  intro W base args ds gs before hval0 hW hcnd hsz0 _
  have hsz : (DataW.weightsEach Try.prog (Try.f6.params.toList ++ Rows.topoTellsSpec.plain.varTypes Try.prog) (ds ++ gs)).all (· ≤ reachBytes) = true := hsz0
  have hval : ∀ (j : Nat) t v, Try.f6.params[j]? = some t → args[j]? = some v → Value.okWide Try.prog W .any base t v := hval0
  have hW' := hW
  obtain ⟨p, q, hA0, hV, rfl, hfz, hnd⟩ := hW
  have hA : DataW.TrodAll enc Try.prog W 0 (fun _ => true) true Try.f6.params.toList args.toList ds p := hA0
  rw [Try.params6] at hA hval hsz
  obtain ⟨v0, vs0, d0, ds0, p0, q0, hargs, rfl, rfl, h0, r0⟩ := trodAll_cons hA
  obtain ⟨v1, vs1, d1, ds1, p1, q1, rfl, rfl, rfl, h1, r1⟩ := trodAll_cons r0
  obtain ⟨v2, vs2, d2, ds2, p2, q2, rfl, rfl, rfl, h2, r2⟩ := trodAll_cons r1
  obtain ⟨rfl, rfl, rfl⟩ := trodAll_nil r2
  obtain rfl : args = #[v0, v1, v2] := by cases args; simp_all
  obtain ⟨rfl, rfl⟩ := trodVars_none hV
  obtain ⟨cs0, rfl, _⟩ := okWide_struct Try.underlying25 (hval 0 25 v0 rfl rfl)
  have k0 := h0
  have lt0 : ∀ x ∈ p0, x.block < W.heap.size := by obtain ⟨m, hm⟩ := k0; exact DataW.trod_lt m _ _ _ hm
  obtain ⟨fuel0, hf0⟩ := h0
  obtain ⟨x0, hK0, hI0⟩ := (opensTopo).out enc W _ _ _ _ _ _ hf0
  obtain ⟨ta0, tca0, tb0, tcb0, e0, tl0, tr0a, tl0b, tr0b⟩ := k25_open hK0
  obtain rfl : cs0 = #[.slice ta0 x0.f0.length tca0, .slice tb0 x0.f1.length tcb0] := agg_of e0
  obtain ⟨cs1, rfl, _⟩ := okWide_struct Try.underlying25 (hval 1 25 v1 rfl rfl)
  have k1 := h1
  have lt1 : ∀ x ∈ p1, x.block < W.heap.size := by obtain ⟨m, hm⟩ := k1; exact DataW.trod_lt m _ _ _ hm
  obtain ⟨fuel1, hf1⟩ := h1
  obtain ⟨x1, hK1, hI1⟩ := (opensTopo).out enc W _ _ _ _ _ _ hf1
  obtain ⟨ta1, tca1, tb1, tcb1, e1, tl1, tr1a, tl1b, tr1b⟩ := k25_open hK1
  obtain rfl : cs1 = #[.slice ta1 x1.f0.length tca1, .slice tb1 x1.f1.length tcb1] := agg_of e1
  obtain ⟨cs2, rfl, _⟩ := okWide_struct Try.underlying27 (hval 2 27 v2 rfl rfl)
  have k2 := h2
  have lt2 : ∀ x ∈ p2, x.block < W.heap.size := by obtain ⟨m, hm⟩ := k2; exact DataW.trod_lt m _ _ _ hm
  obtain ⟨fuel2, hf2⟩ := h2
  obtain ⟨x2, hK2, hI2⟩ := (opensPort).out enc W _ _ _ _ _ _ hf2
  have e2 := k27_open hK2
  obtain rfl : cs2 = #[.int .i64 x2.f0, .int .i64 x2.f1] := agg_of e2
  clear hA0 hval0 hsz0 hsz
  refine (topoTells_any ta0 tca0 x0.f0 tb0 tcb0 x0.f1 ta1 tca1 x1.f0 tb1 tcb1 x1.f1 x2.f0 x2.f1 W tr0a tr0b tl0 tl0b tr1a tr1b tl1 tl1b ).mono fun e W' ⟨he, bel⟩ => ?_
  subst he
  exact ⟨_, rfl, _, _, _, [], _, [], hW', trodAll_mk1 (shut_bool Try.underlying4 _), (trodAll_cons_mk (Below.trod laidOut (by kernel_rfl) (of_decide_eq_true (by kernel_rfl)) k0 bel lt0) (trodAll_cons_mk (Below.trod laidOut (by kernel_rfl) (of_decide_eq_true (by kernel_rfl)) k1 bel lt1) (trodAll_cons_mk (Below.trod laidOut (by kernel_rfl) (of_decide_eq_true (by kernel_rfl)) k2 bel lt2) trodAll_mk0))), rfl, bel.frame _, fun h => by cases h⟩
theorem over : Rows.topoTellsRow.holds Try.pinned (OpenSpec.ofChange Rows.topoTellsSpec) :=
  OpenClaim.holds_of_wide 6 Try.f6 rfl rfl rfl rfl rfl rfl rfl ⟨rfl, rfl, rfl, rfl, rfl⟩ rfl rfl rfl rfl rfl (by kernel_rfl) Try.func6 (by kernel_rfl)
    (of_decide_eq_true (by kernel_rfl)) (by unfold Func.isWrapper; first | (rw [if_pos (by decide +kernel)]; kernel_rfl) | (rw [if_neg (by decide +kernel)]; exact ⟨rfl, rfl⟩))
    (fun os started H enc _ => lifted os started H enc)
theorem proved : Rows.TopoTellsSaid := over
#print axioms proved
end Go.Proofs.Ytglfpobapkkgdaa.topoTells
namespace Go.Proofs.Ytglfpobapkkgdaa
/-- The row, under a short name, for the claim. -/
theorem topoTells_holds : Rows.TopoTellsSaid := topoTells.proved
end Go.Proofs.Ytglfpobapkkgdaa
