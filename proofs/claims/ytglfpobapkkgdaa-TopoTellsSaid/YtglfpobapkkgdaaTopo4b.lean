import Derived.Test.YtglfpobapkkgdaaTopo4
namespace Go.Proofs.Ytglfpobapkkgdaa.H
open Go.RowKit Go.Proofs.Ytglfpobapkkgdaa.P Go.Proofs.YtglfpobapkkgdaaW.PrintWords Go.Proofs.YtglfpobapkkgdaaW.PrintLast Go.Proofs.YtglfpobapkkgdaaW.PrintMore
set_option linter.unusedVariables false
set_option linter.unusedSimpArgs false
set_option maxHeartbeats 1000000 in
theorem refHas_any (A0 : Option Addr) (c0 : Nat) (l0 : List Int) (V1 : Value) (p : S27) (w : World) (hr0 : Kd.C (Kd.int .i64) w A0 l0.length l0) (hv1 : V1.oneCell' = true) :
    Calls Try.prog 22 #[.agg #[.slice A0 l0.length c0, V1], encP p] w fun e w' => e = .returned (.bool (hasB l0 p)) ∧ Below w.heap.size w w' := by
  have hu25 := Try.underlying25
  have hu27 := Try.underlying27
  obtain ⟨p0, p1⟩ := p
  have HR := Aside0.mk hr0
  have hmax := Kd.C_max hr0
  clear hr0
  simp only [encP]
  by_cases h1 : 0 ≤ p0
  · by_cases h2 : p0 < (l0.length : Int)
    · obtain ⟨ad, e, x0⟩ := (Kd.reads_of_C (d := (0 : Int)) HR.out).at_ p0 h1 h2
      cases e
      by_cases h3 : 0 ≤ p1
      · skip
        have E : Aside0 (hasB l0 ⟨p0, p1⟩ = decide (p1 < rdOf 0 l0 p0)) := ⟨by simp [hasB, h1, h2, h3]⟩
        rw [E.out]
        have d0 : decide (0 ≤ p0) = true := by simpa using h1
        have d1 : decide (p0 < (l0.length : Int)) = true := by simpa using h2
        have d2 : decide (0 ≤ p1) = true := by simpa using h3
        generalize rdOf 0 l0 p0 = q at *
        go_enter Try.func22, Try.ntmps22
        go_wp2
        have hB : Below w.heap.size w ((w.alloc (Obj.cells #[Value.slice (some ad) l0.length c0, V1] 25)).alloc (Obj.cells #[Value.int .i64 p0, Value.int .i64 p1] 27)) := ((Below.refl _ _).alloc (Nat.le_refl _) _).alloc (by simp) _
        have x1 := pw_cell_below hB x0
        have HB := Aside0.mk hB
        clear hB
        go_quiet (fail)
        go_wp2
        go_ret
        exact ⟨rfl, pw_below_drewN HB.out _⟩
      · have nh3 := h3
        have E : Aside0 (hasB l0 ⟨p0, p1⟩ = false) := ⟨by simp [hasB, h1, h2, nh3]⟩
        rw [E.out]
        have d0 : decide (0 ≤ p0) = true := by simpa using h1
        have d1 : decide (p0 < (l0.length : Int)) = true := by simpa using h2
        have d2 : decide (0 ≤ p1) = false := by simpa using nh3
        go_enter Try.func22, Try.ntmps22
        go_wp2
        have hB : Below w.heap.size w ((w.alloc (Obj.cells #[Value.slice (some ad) l0.length c0, V1] 25)).alloc (Obj.cells #[Value.int .i64 p0, Value.int .i64 p1] 27)) := ((Below.refl _ _).alloc (Nat.le_refl _) _).alloc (by simp) _
        have HB := Aside0.mk hB
        clear hB
        go_quiet (fail)
        go_wp2
        go_ret
        exact ⟨rfl, pw_below_drewN HB.out _⟩
    · have nh2 := h2
      have E : Aside0 (hasB l0 ⟨p0, p1⟩ = false) := ⟨by simp [hasB, h1, nh2]⟩
      rw [E.out]
      have d0 : decide (0 ≤ p0) = true := by simpa using h1
      have d1 : decide (p0 < (l0.length : Int)) = false := by simpa using nh2
      go_enter Try.func22, Try.ntmps22
      go_wp2
      have hB : Below w.heap.size w ((w.alloc (Obj.cells #[Value.slice A0 l0.length c0, V1] 25)).alloc (Obj.cells #[Value.int .i64 p0, Value.int .i64 p1] 27)) := ((Below.refl _ _).alloc (Nat.le_refl _) _).alloc (by simp) _
      have HB := Aside0.mk hB
      clear hB
      go_quiet (fail)
      go_wp2
      go_ret
      exact ⟨rfl, pw_below_drewN HB.out _⟩
  · have nh1 := h1
    have E : Aside0 (hasB l0 ⟨p0, p1⟩ = false) := ⟨by simp [hasB, nh1]⟩
    rw [E.out]
    have d0 : decide (0 ≤ p0) = false := by simpa using nh1
    go_enter Try.func22, Try.ntmps22
    go_wp2
    have hB : Below w.heap.size w ((w.alloc (Obj.cells #[Value.slice A0 l0.length c0, V1] 25)).alloc (Obj.cells #[Value.int .i64 p0, Value.int .i64 p1] 27)) := ((Below.refl _ _).alloc (Nat.le_refl _) _).alloc (by simp) _
    have HB := Aside0.mk hB
    clear hB
    go_quiet (fail)
    go_wp2
    go_ret
    exact ⟨rfl, pw_below_drewN HB.out _⟩

end Go.Proofs.Ytglfpobapkkgdaa.H
