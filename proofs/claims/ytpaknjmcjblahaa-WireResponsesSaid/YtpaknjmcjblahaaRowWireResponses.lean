/- WireResponses: whatever the input, the law returns true, and each argument reads as it did; no condition. -/
import Derived.Test.YtpaknjmcjblahaaRows
import Derived.Test.YtpaknjmcjblahaaEWirRsp
import Derived.Test.YtpaknjmcjblahaaEWirO
import Derived.WalkKit
import Derived.ProofKit
import Derived.OpenShut
import Derived.ShutString
import Derived.ChangeOld
import Derived.Below
import Derived.SizedLaws
import Derived.Carry
namespace Go.Proofs.Ytpaknjmcjblahaa.wireResponses
open Go.ChangeShapes Go.WideShapes Go.ChangeAt Go.RowKit
open Go.ChangeMaps (open_string shut_string)
open Go.Proofs.Ytpaknjmcjblahaa.H Go.Proofs.Ytpaknjmcjblahaa.Open Go.Proofs.YtpaknjmcjblahaaW.PrintWords Go.Proofs.Ytpaknjmcjblahaa.P
set_option linter.unusedVariables false
set_option linter.unusedSimpArgs false
theorem own : ownKnob Try.prog.godebug = none := by kernel_rfl
theorem laidOut : laidOutB Try.prog = true := by kernel_rfl
set_option maxRecDepth 100000 in
theorem lifted (os : Os) (started : os.Started) (H : Type) (enc : TypeId × Value → H) :
    ReturnsInHanded {} Try.checked os 6 .any (Rows.wireResponsesSpec.pre6 enc Try.prog Try.f6 Rows.wireResponsesRow.domain false) (Rows.wireResponsesSpec.post enc Try.prog Try.f6 false true false false) := by
  refine returnsInHanded_of_change_sized (C := Try.checked) own started (by kernel_rfl) Try.func6
    (ChangeSpec.witness6 (enc := enc) (C := Try.checked) false ⟨#[], #[.agg #[.int .i64 0, .int .i64 0, .slice none 0 0, .slice none 0 0, .bool false, .int .i64 0, .int .u32 0, .slice none 0 0, .int .i64 0, .int .i64 0, .int .i64 0], .agg #[.int .i64 0, .int .i64 0, .slice none 0 0, .slice none 0 0, .bool false, .int .i64 0, .int .u32 0, .slice none 0 0, .int .i64 0, .int .i64 0, .int .i64 0], .slice none 0 0], []⟩ 8 (by kernel_rfl) (by kernel_rfl) (by kernel_rfl) (by kernel_rfl)) ?_
  intro W base args ds gs before hval0 hW hcnd hsz0 _
  have hsz : (DataW.weightsEach Try.prog (Try.f6.params.toList ++ Rows.wireResponsesSpec.plain.varTypes Try.prog) (ds ++ gs)).all (· ≤ reachBytes) = true := hsz0
  have hval : ∀ (j : Nat) t v, Try.f6.params[j]? = some t → args[j]? = some v → Value.okWide Try.prog W .any base t v := hval0
  have hW' := hW
  obtain ⟨p, q, hA0, hV, rfl, hfz, hnd⟩ := hW
  have hA : DataW.TrodAll enc Try.prog W 0 (fun _ => true) true Try.f6.params.toList args.toList ds p := hA0
  rw [Try.params6] at hA hval hsz
  obtain ⟨v0, vs0, d0, ds0, p0, q0, hargs, rfl, rfl, h0, r0⟩ := trodAll_cons hA
  obtain ⟨v1, vs1, d1, ds1, p1, q1, rfl, rfl, rfl, h1, r1⟩ := trodAll_cons r0
  obtain ⟨v2, vs2, d2, ds2, p2, q2, rfl, rfl, rfl, h2, r2⟩ := trodAll_cons r1
  obtain ⟨rfl, rfl, rfl⟩ := trodAll_nil r2
  obtain rfl : args = #[v0, v1, v2] := by cases args; simp_all
  obtain ⟨rfl, rfl⟩ := trodVars_none hV
  obtain ⟨cs0, rfl, _⟩ := okWide_struct Try.underlying50 (hval 0 50 v0 rfl rfl)
  have k0 := h0
  have lt0 : ∀ x ∈ p0, x.block < W.heap.size := by obtain ⟨m, hm⟩ := k0; exact DataW.trod_lt m _ _ _ hm
  obtain ⟨fuel0, hf0⟩ := h0
  obtain ⟨x0, hK0, hI0⟩ := (opensRs).out enc W _ _ _ _ _ _ hf0
  obtain ⟨A20, c20, A30, c30, A70, c70, e0, h20, l20, h30, l30, h70, l70⟩ := rs_open hK0
  obtain rfl : cs0 = (rsVals (.slice A20 (rsOf x0).ids.length c20) (.slice A30 (rsOf x0).rules.length c30) (.slice A70 (rsOf x0).dv.length c70) (rsOf x0)).toArray := agg_of e0
  obtain ⟨cs1, rfl, _⟩ := okWide_struct Try.underlying50 (hval 1 50 v1 rfl rfl)
  have k1 := h1
  have lt1 : ∀ x ∈ p1, x.block < W.heap.size := by obtain ⟨m, hm⟩ := k1; exact DataW.trod_lt m _ _ _ hm
  obtain ⟨fuel1, hf1⟩ := h1
  obtain ⟨x1, hK1, hI1⟩ := (opensRs).out enc W _ _ _ _ _ _ hf1
  obtain ⟨A21, c21, A31, c31, A71, c71, e1, h21, l21, h31, l31, h71, l71⟩ := rs_open hK1
  obtain rfl : cs1 = (rsVals (.slice A21 (rsOf x1).ids.length c21) (.slice A31 (rsOf x1).rules.length c31) (.slice A71 (rsOf x1).dv.length c71) (rsOf x1)).toArray := agg_of e1
  obtain ⟨a2, len2, cap2, rfl⟩ := okWide_slice Try.underlying37 (hval 2 37 v2 rfl rfl)
  have k2 := h2
  have lt2 : ∀ x ∈ p2, x.block < W.heap.size := by obtain ⟨m, hm⟩ := k2; exact DataW.trod_lt m _ _ _ hm
  obtain ⟨fuel2, hf2⟩ := h2
  obtain ⟨l2, hK2, hI2⟩ := (opensBytes).out enc W _ _ _ _ _ _ hf2
  obtain ⟨A2, c2, e2, hc2, hr2⟩ := hK2
  simp only [Value.cells, List.cons.injEq, Value.slice.injEq, and_true] at e2
  obtain ⟨rfl, rfl, rfl⟩ := e2
  clear hA0 hval0 hsz0 hsz
  refine (wireResponses_row (rsOf x0) A20 c20 A30 c30 A70 c70 (rsOf x1) A21 c21 A31 c31 A71 c71 _ _ l2 W hI0 h20 l20 h30 l30 h70 l70 hI1 h21 l21 h31 l31 h71 l71 hr2 hc2 hI2).mono fun e W' ⟨he, bel⟩ => ?_
  subst he
  exact ⟨_, rfl, _, _, _, [], _, [], hW', trodAll_mk1 (shut_bool Try.underlying4 _), (trodAll_cons_mk (Below.trod laidOut (by kernel_rfl) (of_decide_eq_true (by kernel_rfl)) k0 bel lt0) (trodAll_cons_mk (Below.trod laidOut (by kernel_rfl) (of_decide_eq_true (by kernel_rfl)) k1 bel lt1) (trodAll_cons_mk (Below.trod laidOut (by kernel_rfl) (of_decide_eq_true (by kernel_rfl)) k2 bel lt2) trodAll_mk0))), rfl, bel.frame _, fun h => by cases h⟩
theorem over : Rows.wireResponsesRow.holds Try.pinned (OpenSpec.ofChange Rows.wireResponsesSpec) :=
  OpenClaim.holds_of_wide 6 Try.f6 rfl rfl rfl rfl rfl rfl rfl ⟨rfl, rfl, rfl, rfl, rfl⟩ rfl rfl rfl rfl rfl (by kernel_rfl) Try.func6 (by kernel_rfl)
    (of_decide_eq_true (by kernel_rfl)) (by unfold Func.isWrapper; first | (rw [if_pos (by decide +kernel)]; kernel_rfl) | (rw [if_neg (by decide +kernel)]; exact ⟨rfl, rfl⟩))
    (fun os started H enc _ => lifted os started H enc)
theorem proved : Rows.WireResponsesSaid := over
#print axioms proved
end Go.Proofs.Ytpaknjmcjblahaa.wireResponses
namespace Go.Proofs.Ytpaknjmcjblahaa
/-- The row, under a short name, for the claim. -/
theorem wireResponses_holds : Rows.WireResponsesSaid := wireResponses.proved
end Go.Proofs.Ytpaknjmcjblahaa
