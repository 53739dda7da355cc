/- within: walked. -/
import Derived.Test.YtpaknjmcjblahaaCCfi
namespace Go.Proofs.Ytpaknjmcjblahaa.H
open Go.RowKit Go.Proofs.Ytpaknjmcjblahaa.P Go.Proofs.YtpaknjmcjblahaaW.PrintWords Go.Proofs.YtpaknjmcjblahaaW.PrintLast Go.Proofs.YtpaknjmcjblahaaW.PrintMore
set_option linter.unusedVariables false
set_option linter.unusedSimpArgs false
set_option maxRecDepth 20000
def outB (most : Int) (x : Int) : Bool := decide (x < 0) || decide (most < x)
def allIn (most : Int) (l : List Int) : Bool := !l.any (outB most)
theorem wpred (most : Int) (bm : Nat) (w : World) (hm : w.heap[bm]? = some (.cells #[.int .i64 most] 3 (0, 0))) : PredK (outB most) 60 #[.pointer (some ⟨bm, 0, none⟩)] (bm + 1) w := by
  intro W x hW
  have hb := hW.blk hm (by omega)
  have c0 := blk_cell hb 0
  clear hb hm
  by_cases c1 : x < 0
  · have e : outB most x = true := by unfold outB; simp [c1]
    rw [e]
    have d1 : decide (x < 0) = true := decide_eq_true c1
    go_enter Try.func60, Try.ntmps60
    go_wp2_with fail
    go_ret
    exact ⟨rfl, Below.refl _ _⟩
  · by_cases c2 : most < x
    · have e : outB most x = true := by unfold outB; simp [c2]
      rw [e]
      have d1 : decide (x < 0) = false := decide_eq_false c1
      have d2 : decide (most < x) = true := decide_eq_true c2
      go_enter Try.func60, Try.ntmps60
      go_wp2_with fail
      go_ret
      exact ⟨rfl, Below.refl _ _⟩
    · have e : outB most x = false := by unfold outB; simp [c1, c2]
      rw [e]
      have d1 : decide (x < 0) = false := decide_eq_false c1
      have d2 : decide (most < x) = false := decide_eq_false c2
      go_enter Try.func60, Try.ntmps60
      go_wp2_with fail
      go_ret
      exact ⟨rfl, Below.refl _ _⟩
set_option maxHeartbeats 2000000 in
theorem within_any (most : Int) (A : Option Addr) (c : Nat) (l : List Int) (w : World) (hC : Kd.C (Kd.int .i64) w A l.length l) :
    Calls Try.prog 39 #[.int .i64 most, .slice A l.length c] w fun e w' => e = .returned (.bool (allIn most l)) ∧ Below w.heap.size w w' := by
  have hl := Kd.C_max hC
  have HB := Aside0.mk ((Below.refl w.heap.size w).alloc (Nat.le_refl _) (.cells #[.int .i64 most] 3))
  have HP := wpred most w.heap.size (w.alloc (.cells #[.int .i64 most] 3)) (blk_new w _)
  have hcf := cf_any A c l (outB most) 60 #[.pointer (some ⟨w.heap.size, 0, none⟩)] (w.heap.size + 1) (enters' Try.func60 (by kernel_rfl) rfl) (w.alloc (.cells #[.int .i64 most] 3)) (Kd.C_alloc hC _) hl HP
  have HA := Aside0.mk (show allIn most l = !l.any (outB most) from rfl)
  generalize allIn most l = r at *
  generalize l.any (outB most) = q at *
  rw [HA.out]
  clear hC HP hl
  go_enter Try.func39, Try.ntmps39
  go_wp2_with fail
  refine hcf.mono ?_
  rintro e w1 ⟨rfl, hb⟩
  have HB1 := Aside0.mk (HB.out.trans (hb.mono HB.out.size))
  clear hcf hb
  go_wp2_with fail
  go_ret
  exact ⟨rfl, HB1.out⟩
end Go.Proofs.Ytpaknjmcjblahaa.H
