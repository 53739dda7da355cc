/- Ex10. -/
import Derived.Test.YtckjhdlpbfcaiaaDEdtP
import Derived.Test.YtckjhdlpbfcaiaaDEx1
import Derived.Test.YtckjhdlpbfcaiaaDEx3
import Derived.Test.YtckjhdlpbfcaiaaDEx4
import Derived.Test.YtckjhdlpbfcaiaaDEx5
import Derived.Test.YtckjhdlpbfcaiaaDEx6
namespace Go.Proofs.Ytckjhdlpbfcaiaa.E
open Go.Proofs.Ytckjhdlpbfcaiaa.P
open Go.RowKit Go.Proofs.YtckjhdlpbfcaiaaW.PrintWords Go.Proofs.YtckjhdlpbfcaiaaW.PrintLast Go.Proofs.YtckjhdlpbfcaiaaW.PrintMore
set_option linter.unusedVariables false
set_option linter.unusedSimpArgs false
attribute [local go_sem high] eqA35
def waystoneref07_Same.l0 : Nat → List (S35) → List (S35) → Int → Option (Bool)
  | 0, _, _, _ => none
  | k + 1, x0, x1, x5 => if x5 < (x0.length : Int) then (if 0 ≤ x5 then (if x5 < (x1.length : Int) then (if (!(((rd_T35 x0 x5).f0) == ((rd_T35 x1 x5).f0)) || (!(((rd_T35 x0 x5).f1) == ((rd_T35 x1 x5).f1)) || (!(((rd_T35 x0 x5).f2) == ((rd_T35 x1 x5).f2)) || (!(((rd_T35 x0 x5).f3) == ((rd_T35 x1 x5).f3)) || ((!(((rd_T35 x0 x5).f4.f0) == ((rd_T35 x1 x5).f4.f0)) || (!(((rd_T35 x0 x5).f4.f1) == ((rd_T35 x1 x5).f4.f1)))) || (!(((rd_T35 x0 x5).f5) == ((rd_T35 x1 x5).f5)))))))) = true then (some false) else (waystoneref07_Same.l0 k x0 x1 (wrap64 (x5 + 1)))) else (none)) else (none)) else (some true)
def waystoneref07_Same.f (k : Nat) (l0 : List (S35)) (l1 : List (S35)) : Option (Bool) := if (l0.length : Int) = (l1.length : Int) then (waystoneref07_Same.l0 k l0 l1 0) else (some false)
set_option maxHeartbeats 8000000 in
set_option maxRecDepth 100000 in
theorem waystoneref07_Same.calls (k : Nat) (A0 : Option Addr) (c0 : Nat) (l0 : List (S35)) (A1 : Option Addr) (c1 : Nat) (l1 : List (S35)) (r : Bool) (w : World) (hr0 : Kd.C k35 w A0 l0.length l0) (hc0 : l0.length ≤ c0) (hr1 : Kd.C k35 w A1 l1.length l1) (hc1 : l1.length ≤ c1) (h : waystoneref07_Same.f k l0 l1 = some r) :
    Calls Try.prog 14 #[.slice A0 l0.length c0, .slice A1 l1.length c1] w fun e w' => e = .returned (.bool r) ∧ Drawn0 w w' := by
  have hu35 := Try.underlying35
  have HR0 := Aside0.mk hr0
  have HC0 := Aside0.mk hc0
  clear hr0 hc0
  have HR1 := Aside0.mk hr1
  have HC1 := Aside0.mk hc1
  clear hr1 hc1
  have H : (if (l0.length : Int) = (l1.length : Int) then (waystoneref07_Same.l0 k l0 l1 0) else (some false)) = some r := h
  clear h
  by_cases c3 : (l0.length : Int) = (l1.length : Int)
  · rw [if_pos c3] at H
    have c3b0 : ((l0.length : Int) == (l1.length : Int)) = true := beq_iff_eq.mpr c3
    have c3b1 : ((l0.length : Int) != (l1.length : Int)) = false := bne_eq_false_iff_eq.mpr c3
    have c3b2 : (l0.length == l1.length) = true := by first | simpa using c3 | (simp at c3 ⊢; omega)
    clear c3
    have H' := Aside0.mk H
    clear H
    go_enter Try.func14, Try.ntmps14
    go_wp2
    repeat (go_quiet (fail); try go_wp2)
    go_loopg [5] k (fun kq v5 w' => ∃ (x5_1 : Int), v5 = .int .i64 x5_1 ∧ Aside0 (waystoneref07_Same.l0 kq l0 l1 x5_1 = some r) ∧ Aside0 (kq ≤ k) ∧ Drawn0 w w')
    case atStart => exact ⟨(0), (by first | rfl | (simp; done) | (simp [*]; done)), H', ⟨Nat.le_refl _⟩, by repeat (first | exact Drawn0.refl _ | apply Drawn0.step)⟩
    case round =>
      clear H'
      try clear c1
      try clear p2
      try clear c3
      try clear c3b0
      try clear c3b1
      try clear c3b2
      obtain ⟨x5_1, rfl, HA, HK1, ⟨m1, rfl⟩⟩ := hrel
      cases gk with
      | zero => exact absurd HA.out (by simp [waystoneref07_Same.l0])
      | succ k1 =>
        have H := HA.out
        clear HA
        simp only [waystoneref07_Same.l0] at H
        by_cases c4 : x5_1 < (l0.length : Int)
        · rw [if_pos c4] at H
          have c4b0 : decide (x5_1 < (l0.length : Int)) = true := decide_eq_true c4
          clear c4
          by_cases c5 : 0 ≤ x5_1
          · rw [if_pos c5] at H
            have c5b0 : decide (0 ≤ x5_1) = true := decide_eq_true c5
            clear c5
            by_cases c6 : x5_1 < (l1.length : Int)
            · rw [if_pos c6] at H
              have c6b0 : decide (x5_1 < (l1.length : Int)) = true := decide_eq_true c6
              clear c6
              by_cases c7 : (!(((rd_T35 l0 x5_1).f0) == ((rd_T35 l1 x5_1).f0)) || (!(((rd_T35 l0 x5_1).f1) == ((rd_T35 l1 x5_1).f1)) || (!(((rd_T35 l0 x5_1).f2) == ((rd_T35 l1 x5_1).f2)) || (!(((rd_T35 l0 x5_1).f3) == ((rd_T35 l1 x5_1).f3)) || ((!(((rd_T35 l0 x5_1).f4.f0) == ((rd_T35 l1 x5_1).f4.f0)) || (!(((rd_T35 l0 x5_1).f4.f1) == ((rd_T35 l1 x5_1).f4.f1)))) || (!(((rd_T35 l0 x5_1).f5) == ((rd_T35 l1 x5_1).f5)))))))) = true
              · rw [if_pos c7] at H
                have c7b0 : (!(((rd_T35 l0 x5_1).f0) == ((rd_T35 l1 x5_1).f0)) || (!(((rd_T35 l0 x5_1).f1) == ((rd_T35 l1 x5_1).f1)) || (!(((rd_T35 l0 x5_1).f2) == ((rd_T35 l1 x5_1).f2)) || (!(((rd_T35 l0 x5_1).f3) == ((rd_T35 l1 x5_1).f3)) || ((!(((rd_T35 l0 x5_1).f4.f0) == ((rd_T35 l1 x5_1).f4.f0)) || (!(((rd_T35 l0 x5_1).f4.f1) == ((rd_T35 l1 x5_1).f4.f1)))) || (!(((rd_T35 l0 x5_1).f5) == ((rd_T35 l1 x5_1).f5)))))))) = true := c7
                clear c7
                obtain rfl := Option.some.inj H
                have p308 : 0 ≤ (x5_1 : Int) := of_decide_eq_true (by first | (with_reducible assumption) | assumption)
                have q308 : x5_1 < (l0.length : Int) := of_decide_eq_true (by first | (with_reducible assumption) | assumption)
                obtain ⟨ad308, e308, hx308_0, hx308_1, hx308_2, hx308_3, hx308_4, hx308_5, hx308_6⟩ := at_T35 HR0.out x5_1 p308 q308
                cases e308
                replace p308 := eq_true p308
                replace q308 := eq_true q308
                have p309 : 0 ≤ (x5_1 : Int) := of_decide_eq_true (by first | (with_reducible assumption) | assumption)
                have q309 : x5_1 < (l1.length : Int) := of_decide_eq_true (by first | (with_reducible assumption) | assumption)
                obtain ⟨ad309, e309, hx309_0, hx309_1, hx309_2, hx309_3, hx309_4, hx309_5, hx309_6⟩ := at_T35 HR1.out x5_1 p309 q309
                cases e309
                replace p309 := eq_true p309
                replace q309 := eq_true q309
                go_wp2
                repeat (go_quiet (fail); try go_wp2)
                go_ret
                exact ⟨by first | rfl | (simp; done) | (simp [*]; done), by repeat (first | exact Drawn0.refl _ | apply Drawn0.step)⟩
              · rw [if_neg c7] at H
                have c7b0 : (!(((rd_T35 l0 x5_1).f0) == ((rd_T35 l1 x5_1).f0)) || (!(((rd_T35 l0 x5_1).f1) == ((rd_T35 l1 x5_1).f1)) || (!(((rd_T35 l0 x5_1).f2) == ((rd_T35 l1 x5_1).f2)) || (!(((rd_T35 l0 x5_1).f3) == ((rd_T35 l1 x5_1).f3)) || ((!(((rd_T35 l0 x5_1).f4.f0) == ((rd_T35 l1 x5_1).f4.f0)) || (!(((rd_T35 l0 x5_1).f4.f1) == ((rd_T35 l1 x5_1).f4.f1)))) || (!(((rd_T35 l0 x5_1).f5) == ((rd_T35 l1 x5_1).f5)))))))) = false := by simpa using c7
                clear c7
                have H' := Aside0.mk H
                clear H
                have p308 : 0 ≤ (x5_1 : Int) := of_decide_eq_true (by first | (with_reducible assumption) | assumption)
                have q308 : x5_1 < (l0.length : Int) := of_decide_eq_true (by first | (with_reducible assumption) | assumption)
                obtain ⟨ad308, e308, hx308_0, hx308_1, hx308_2, hx308_3, hx308_4, hx308_5, hx308_6⟩ := at_T35 HR0.out x5_1 p308 q308
                cases e308
                replace p308 := eq_true p308
                replace q308 := eq_true q308
                have p309 : 0 ≤ (x5_1 : Int) := of_decide_eq_true (by first | (with_reducible assumption) | assumption)
                have q309 : x5_1 < (l1.length : Int) := of_decide_eq_true (by first | (with_reducible assumption) | assumption)
                obtain ⟨ad309, e309, hx309_0, hx309_1, hx309_2, hx309_3, hx309_4, hx309_5, hx309_6⟩ := at_T35 HR1.out x5_1 p309 q309
                cases e309
                replace p309 := eq_true p309
                replace q309 := eq_true q309
                go_wp2
                repeat (go_quiet (fail); try go_wp2)
                go_roundg k1
                case measure => have := HK1.out; omega
                case rel => exact ⟨(wrap64 (x5_1 + 1)), (by first | rfl | (simp; done) | (simp [*]; done)), H', ⟨by have := HK1.out; omega⟩, by repeat (first | exact Drawn0.refl _ | apply Drawn0.step)⟩
            · rw [if_neg c6] at H
              exact absurd H (by simp)
          · rw [if_neg c5] at H
            exact absurd H (by simp)
        · rw [if_neg c4] at H
          have c4b0 : decide (x5_1 < (l0.length : Int)) = false := decide_eq_false c4
          clear c4
          obtain rfl := Option.some.inj H
          go_wp2
          repeat (go_quiet (fail); try go_wp2)
          go_ret
          exact ⟨by first | rfl | (simp; done) | (simp [*]; done), by repeat (first | exact Drawn0.refl _ | apply Drawn0.step)⟩
  · rw [if_neg c3] at H
    have c3b0 : ((l0.length : Int) == (l1.length : Int)) = false := beq_eq_false_iff_ne.mpr c3
    have c3b1 : ((l0.length : Int) != (l1.length : Int)) = true := bne_iff_ne.mpr c3
    have c3b2 : (l0.length == l1.length) = false := by first | simpa using c3 | (simp at c3 ⊢; omega)
    obtain rfl := Option.some.inj H
    go_enter Try.func14, Try.ntmps14
    go_wp2
    repeat (go_quiet (fail); try go_wp2)
    go_ret
    exact ⟨by first | rfl | (simp; done) | (simp [*]; done), by repeat (first | exact Drawn0.refl _ | apply Drawn0.step)⟩
def rule_Find.f (l0 : List (S35)) (a1 : Int) : Option (Int × Int × Int × Int × Int × Int × Int × Bool) := if l0.length * 48 ≤ 140737488355328 then some ((Go.Proofs.Ytckjhdlpbfcaiaa.H.findR l0 a1).f0, (Go.Proofs.Ytckjhdlpbfcaiaa.H.findR l0 a1).f1, (Go.Proofs.Ytckjhdlpbfcaiaa.H.findR l0 a1).f2, (Go.Proofs.Ytckjhdlpbfcaiaa.H.findR l0 a1).f3, (Go.Proofs.Ytckjhdlpbfcaiaa.H.findR l0 a1).f4.f0, (Go.Proofs.Ytckjhdlpbfcaiaa.H.findR l0 a1).f4.f1, (Go.Proofs.Ytckjhdlpbfcaiaa.H.findR l0 a1).f5, Go.Proofs.Ytckjhdlpbfcaiaa.H.bsF l0 a1) else none
theorem rule_Find.calls (A0 : Option Addr) (c0 : Nat) (l0 : List (S35)) (a1 : Int) (r1 : Int) (r2 : Int) (r3 : Int) (r4 : Int) (r5 : Int) (r6 : Int) (r7 : Int) (r8 : Bool) (w : World) (hr0 : Kd.C k35 w A0 l0.length l0) (hc0 : l0.length ≤ c0) (h : rule_Find.f l0 a1 = some (r1, r2, r3, r4, r5, r6, r7, r8)) :
    Calls Try.prog 15 #[.slice A0 l0.length c0, .int .i64 a1] w fun e w' => e = .returned (.tuple #[.agg #[.int .i64 r1, .int .i64 r2, .int .i64 r3, .int .i64 r4, .int .u32 r5, .int .u32 r6, .int .i64 r7], .bool r8]) ∧ Below w.heap.size w w' := by
  unfold rule_Find.f at h
  by_cases hl : l0.length * 48 ≤ 140737488355328
  · rw [if_pos hl] at h
    cases h
    exact Go.Proofs.Ytckjhdlpbfcaiaa.H.find_any A0 c0 l0 a1 w hr0 hl
  · rw [if_neg hl] at h
    cases h
end Go.Proofs.Ytckjhdlpbfcaiaa.E
