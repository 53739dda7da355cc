/- EdaR. -/
import Derived.Test.YtckjhdlpbfcaiaaDEda2
namespace Go.Proofs.Ytckjhdlpbfcaiaa.H
open Go.RowKit Go.Proofs.Ytckjhdlpbfcaiaa.P Go.Proofs.YtckjhdlpbfcaiaaW.PrintWords Go.Proofs.YtckjhdlpbfcaiaaW.PrintLast Go.Proofs.YtckjhdlpbfcaiaaW.PrintMore
set_option linter.unusedVariables false
set_option linter.unusedSimpArgs false
set_option maxRecDepth 20000
abbrev RulN := S35
def inB (n a b : Int) : Bool := decide (a ≤ n) && decide (n ≤ b)
def okRule (r : RulN) : Bool := inB r.f0 1 1048576 && inB r.f1 0 7 && inB r.f2 0 1024 && inB r.f3 0 3 && (inB r.f5 0 3 && (r.f3 == 0 || r.f5 == 0)) && decide (r.f4.f0 ≤ r.f4.f1)
def i64 (x : Int) : Prop := -9223372036854775808 ≤ x ∧ x ≤ 9223372036854775807
theorem inB_wrap (n : Int) (h : i64 n) : inB (wrap64 (n - 1)) 0 1048575 = inB n 1 1048576 := by
  unfold inB wrap64
  unfold i64 at h
  rw [Bool.eq_iff_iff]
  simp only [Bool.and_eq_true, decide_eq_true_iff]
  omega
theorem withinP_any (n a b : Int) (w : World) : Calls Try.prog 49 #[.int .i64 n, .int .i64 a, .int .i64 b] w fun e w' => e = .returned (.bool (inB n a b)) ∧ w = w' := by
  unfold inB
  cases h : decide (a ≤ n) with
  | false =>
    simp only [Bool.false_and]
    go_enter Try.func49, Try.ntmps49
    go_wp2
    go_ret
    exact ⟨rfl, rfl⟩
  | true =>
    simp only [Bool.true_and]
    generalize h2 : decide (n ≤ b) = q
    go_enter Try.func49, Try.ntmps49
    go_wp2
    go_ret
    exact ⟨rfl, rfl⟩
theorem withinD_any (n b : Int) (w : World) : Calls Try.prog 51 #[.int .i64 n, .int .i64 b] w fun e w' => e = .returned (.bool (inB n 0 b)) ∧ w = w' := by
  unfold inB
  cases h : decide (0 ≤ n) with
  | false =>
    simp only [Bool.false_and]
    go_enter Try.func51, Try.ntmps51
    go_wp2
    go_ret
    exact ⟨rfl, rfl⟩
  | true =>
    simp only [Bool.true_and]
    generalize h2 : decide (n ≤ b) = q
    go_enter Try.func51, Try.ntmps51
    go_wp2
    go_ret
    exact ⟨rfl, rfl⟩
set_option maxHeartbeats 4000000 in
theorem rightP_any (r : RulN) (w : World) : Calls Try.prog 36 #[encR r] w fun e w' => e = .returned (.bool (okRule r)) ∧ Below w.heap.size w w' := by
  have huR := Try.underlying35
  have huG := Try.underlying33
  simp only [encR]
  have w0 := fun W => withinP_any r.f0 1 1048576 W
  have w1 := fun W => withinP_any r.f1 0 7 W
  have w2 := fun W => withinP_any r.f2 0 1024 W
  have w3 := fun W => withinP_any r.f3 0 3 W
  have w5 := fun W => withinP_any r.f5 0 3 W
  unfold okRule
  generalize inB r.f0 1 1048576 = bf0 at *
  generalize inB r.f1 0 7 = bf1 at *
  generalize inB r.f2 0 1024 = bf2 at *
  generalize inB r.f3 0 3 = bf3 at *
  generalize inB r.f5 0 3 = bf5 at *
  generalize hle : decide (r.f4.f0 ≤ r.f4.f1) = q
  cases bf0 with
  | false =>
    cases bf5 with
    | false =>
      simp only [Bool.false_and, Bool.and_false, Bool.true_and, Bool.and_true, Bool.false_eq_true]
      go_enter Try.func36, Try.ntmps36
      go_wp2_with fail
      refine (w0 _).mono ?_
      rintro e _ ⟨rfl, rfl⟩
      go_wp2_with fail
      refine (w5 _).mono ?_
      rintro e _ ⟨rfl, rfl⟩
      go_wp2_with fail
      go_ret
      exact ⟨rfl, (Below.refl _ _).alloc (Nat.le_refl _) _⟩
    | true =>
      cases h3 : (r.f3 == 0) with
      | true =>
        simp only [Bool.true_or, Bool.false_and, Bool.and_false, Bool.true_and, Bool.and_true]
        go_enter Try.func36, Try.ntmps36
        go_wp2_with fail
        refine (w0 _).mono ?_
        rintro e _ ⟨rfl, rfl⟩
        go_wp2_with fail
        refine (w5 _).mono ?_
        rintro e _ ⟨rfl, rfl⟩
        go_wp2_with fail
        go_ret
        exact ⟨rfl, (Below.refl _ _).alloc (Nat.le_refl _) _⟩
      | false =>
        cases h5 : (r.f5 == 0) with
        | true =>
          simp only [Bool.or_true, Bool.or_false, Bool.false_or, Bool.false_and, Bool.and_false, Bool.true_and, Bool.and_true]
          go_enter Try.func36, Try.ntmps36
          go_wp2_with fail
          refine (w0 _).mono ?_
          rintro e _ ⟨rfl, rfl⟩
          go_wp2_with fail
          refine (w5 _).mono ?_
          rintro e _ ⟨rfl, rfl⟩
          go_wp2_with fail
          go_ret
          exact ⟨rfl, (Below.refl _ _).alloc (Nat.le_refl _) _⟩
        | false =>
          simp only [Bool.or_true, Bool.or_false, Bool.false_or, Bool.false_and, Bool.and_false, Bool.true_and, Bool.and_true]
          go_enter Try.func36, Try.ntmps36
          go_wp2_with fail
          refine (w0 _).mono ?_
          rintro e _ ⟨rfl, rfl⟩
          go_wp2_with fail
          refine (w5 _).mono ?_
          rintro e _ ⟨rfl, rfl⟩
          go_wp2_with fail
          go_ret
          exact ⟨rfl, (Below.refl _ _).alloc (Nat.le_refl _) _⟩
  | true =>
    cases bf1 with
    | false =>
      cases bf5 with
      | false =>
        simp only [Bool.false_and, Bool.and_false, Bool.true_and, Bool.and_true, Bool.false_eq_true]
        go_enter Try.func36, Try.ntmps36
        go_wp2_with fail
        refine (w0 _).mono ?_
        rintro e _ ⟨rfl, rfl⟩
        go_wp2_with fail
        refine (w1 _).mono ?_
        rintro e _ ⟨rfl, rfl⟩
        go_wp2_with fail
        refine (w5 _).mono ?_
        rintro e _ ⟨rfl, rfl⟩
        go_wp2_with fail
        go_ret
        exact ⟨rfl, (Below.refl _ _).alloc (Nat.le_refl _) _⟩
      | true =>
        cases h3 : (r.f3 == 0) with
        | true =>
          simp only [Bool.true_or, Bool.false_and, Bool.and_false, Bool.true_and, Bool.and_true]
          go_enter Try.func36, Try.ntmps36
          go_wp2_with fail
          refine (w0 _).mono ?_
          rintro e _ ⟨rfl, rfl⟩
          go_wp2_with fail
          refine (w1 _).mono ?_
          rintro e _ ⟨rfl, rfl⟩
          go_wp2_with fail
          refine (w5 _).mono ?_
          rintro e _ ⟨rfl, rfl⟩
          go_wp2_with fail
          go_ret
          exact ⟨rfl, (Below.refl _ _).alloc (Nat.le_refl _) _⟩
        | false =>
          cases h5 : (r.f5 == 0) with
          | true =>
            simp only [Bool.or_true, Bool.or_false, Bool.false_or, Bool.false_and, Bool.and_false, Bool.true_and, Bool.and_true]
            go_enter Try.func36, Try.ntmps36
            go_wp2_with fail
            refine (w0 _).mono ?_
            rintro e _ ⟨rfl, rfl⟩
            go_wp2_with fail
            refine (w1 _).mono ?_
            rintro e _ ⟨rfl, rfl⟩
            go_wp2_with fail
            refine (w5 _).mono ?_
            rintro e _ ⟨rfl, rfl⟩
            go_wp2_with fail
            go_ret
            exact ⟨rfl, (Below.refl _ _).alloc (Nat.le_refl _) _⟩
          | false =>
            simp only [Bool.or_true, Bool.or_false, Bool.false_or, Bool.false_and, Bool.and_false, Bool.true_and, Bool.and_true]
            go_enter Try.func36, Try.ntmps36
            go_wp2_with fail
            refine (w0 _).mono ?_
            rintro e _ ⟨rfl, rfl⟩
            go_wp2_with fail
            refine (w1 _).mono ?_
            rintro e _ ⟨rfl, rfl⟩
            go_wp2_with fail
            refine (w5 _).mono ?_
            rintro e _ ⟨rfl, rfl⟩
            go_wp2_with fail
            go_ret
            exact ⟨rfl, (Below.refl _ _).alloc (Nat.le_refl _) _⟩
    | true =>
      cases bf2 with
      | false =>
        cases bf5 with
        | false =>
          simp only [Bool.false_and, Bool.and_false, Bool.true_and, Bool.and_true, Bool.false_eq_true]
          go_enter Try.func36, Try.ntmps36
          go_wp2_with fail
          refine (w0 _).mono ?_
          rintro e _ ⟨rfl, rfl⟩
          go_wp2_with fail
          refine (w1 _).mono ?_
          rintro e _ ⟨rfl, rfl⟩
          go_wp2_with fail
          refine (w2 _).mono ?_
          rintro e _ ⟨rfl, rfl⟩
          go_wp2_with fail
          refine (w5 _).mono ?_
          rintro e _ ⟨rfl, rfl⟩
          go_wp2_with fail
          go_ret
          exact ⟨rfl, (Below.refl _ _).alloc (Nat.le_refl _) _⟩
        | true =>
          cases h3 : (r.f3 == 0) with
          | true =>
            simp only [Bool.true_or, Bool.false_and, Bool.and_false, Bool.true_and, Bool.and_true]
            go_enter Try.func36, Try.ntmps36
            go_wp2_with fail
            refine (w0 _).mono ?_
            rintro e _ ⟨rfl, rfl⟩
            go_wp2_with fail
            refine (w1 _).mono ?_
            rintro e _ ⟨rfl, rfl⟩
            go_wp2_with fail
            refine (w2 _).mono ?_
            rintro e _ ⟨rfl, rfl⟩
            go_wp2_with fail
            refine (w5 _).mono ?_
            rintro e _ ⟨rfl, rfl⟩
            go_wp2_with fail
            go_ret
            exact ⟨rfl, (Below.refl _ _).alloc (Nat.le_refl _) _⟩
          | false =>
            cases h5 : (r.f5 == 0) with
            | true =>
              simp only [Bool.or_true, Bool.or_false, Bool.false_or, Bool.false_and, Bool.and_false, Bool.true_and, Bool.and_true]
              go_enter Try.func36, Try.ntmps36
              go_wp2_with fail
              refine (w0 _).mono ?_
              rintro e _ ⟨rfl, rfl⟩
              go_wp2_with fail
              refine (w1 _).mono ?_
              rintro e _ ⟨rfl, rfl⟩
              go_wp2_with fail
              refine (w2 _).mono ?_
              rintro e _ ⟨rfl, rfl⟩
              go_wp2_with fail
              refine (w5 _).mono ?_
              rintro e _ ⟨rfl, rfl⟩
              go_wp2_with fail
              go_ret
              exact ⟨rfl, (Below.refl _ _).alloc (Nat.le_refl _) _⟩
            | false =>
              simp only [Bool.or_true, Bool.or_false, Bool.false_or, Bool.false_and, Bool.and_false, Bool.true_and, Bool.and_true]
              go_enter Try.func36, Try.ntmps36
              go_wp2_with fail
              refine (w0 _).mono ?_
              rintro e _ ⟨rfl, rfl⟩
              go_wp2_with fail
              refine (w1 _).mono ?_
              rintro e _ ⟨rfl, rfl⟩
              go_wp2_with fail
              refine (w2 _).mono ?_
              rintro e _ ⟨rfl, rfl⟩
              go_wp2_with fail
              refine (w5 _).mono ?_
              rintro e _ ⟨rfl, rfl⟩
              go_wp2_with fail
              go_ret
              exact ⟨rfl, (Below.refl _ _).alloc (Nat.le_refl _) _⟩
      | true =>
        cases bf3 with
        | false =>
          cases bf5 with
          | false =>
            simp only [Bool.false_and, Bool.and_false, Bool.true_and, Bool.and_true, Bool.false_eq_true]
            go_enter Try.func36, Try.ntmps36
            go_wp2_with fail
            refine (w0 _).mono ?_
            rintro e _ ⟨rfl, rfl⟩
            go_wp2_with fail
            refine (w1 _).mono ?_
            rintro e _ ⟨rfl, rfl⟩
            go_wp2_with fail
            refine (w2 _).mono ?_
            rintro e _ ⟨rfl, rfl⟩
            go_wp2_with fail
            refine (w3 _).mono ?_
            rintro e _ ⟨rfl, rfl⟩
            go_wp2_with fail
            refine (w5 _).mono ?_
            rintro e _ ⟨rfl, rfl⟩
            go_wp2_with fail
            go_ret
            exact ⟨rfl, (Below.refl _ _).alloc (Nat.le_refl _) _⟩
          | true =>
            cases h3 : (r.f3 == 0) with
            | true =>
              simp only [Bool.true_or, Bool.false_and, Bool.and_false, Bool.true_and, Bool.and_true]
              go_enter Try.func36, Try.ntmps36
              go_wp2_with fail
              refine (w0 _).mono ?_
              rintro e _ ⟨rfl, rfl⟩
              go_wp2_with fail
              refine (w1 _).mono ?_
              rintro e _ ⟨rfl, rfl⟩
              go_wp2_with fail
              refine (w2 _).mono ?_
              rintro e _ ⟨rfl, rfl⟩
              go_wp2_with fail
              refine (w3 _).mono ?_
              rintro e _ ⟨rfl, rfl⟩
              go_wp2_with fail
              refine (w5 _).mono ?_
              rintro e _ ⟨rfl, rfl⟩
              go_wp2_with fail
              go_ret
              exact ⟨rfl, (Below.refl _ _).alloc (Nat.le_refl _) _⟩
            | false =>
              cases h5 : (r.f5 == 0) with
              | true =>
                simp only [Bool.or_true, Bool.or_false, Bool.false_or, Bool.false_and, Bool.and_false, Bool.true_and, Bool.and_true]
                go_enter Try.func36, Try.ntmps36
                go_wp2_with fail
                refine (w0 _).mono ?_
                rintro e _ ⟨rfl, rfl⟩
                go_wp2_with fail
                refine (w1 _).mono ?_
                rintro e _ ⟨rfl, rfl⟩
                go_wp2_with fail
                refine (w2 _).mono ?_
                rintro e _ ⟨rfl, rfl⟩
                go_wp2_with fail
                refine (w3 _).mono ?_
                rintro e _ ⟨rfl, rfl⟩
                go_wp2_with fail
                refine (w5 _).mono ?_
                rintro e _ ⟨rfl, rfl⟩
                go_wp2_with fail
                go_ret
                exact ⟨rfl, (Below.refl _ _).alloc (Nat.le_refl _) _⟩
              | false =>
                simp only [Bool.or_true, Bool.or_false, Bool.false_or, Bool.false_and, Bool.and_false, Bool.true_and, Bool.and_true]
                go_enter Try.func36, Try.ntmps36
                go_wp2_with fail
                refine (w0 _).mono ?_
                rintro e _ ⟨rfl, rfl⟩
                go_wp2_with fail
                refine (w1 _).mono ?_
                rintro e _ ⟨rfl, rfl⟩
                go_wp2_with fail
                refine (w2 _).mono ?_
                rintro e _ ⟨rfl, rfl⟩
                go_wp2_with fail
                refine (w3 _).mono ?_
                rintro e _ ⟨rfl, rfl⟩
                go_wp2_with fail
                refine (w5 _).mono ?_
                rintro e _ ⟨rfl, rfl⟩
                go_wp2_with fail
                go_ret
                exact ⟨rfl, (Below.refl _ _).alloc (Nat.le_refl _) _⟩
        | true =>
          cases bf5 with
          | false =>
            simp only [Bool.false_and, Bool.and_false, Bool.true_and, Bool.and_true, Bool.false_eq_true]
            go_enter Try.func36, Try.ntmps36
            go_wp2_with fail
            refine (w0 _).mono ?_
            rintro e _ ⟨rfl, rfl⟩
            go_wp2_with fail
            refine (w1 _).mono ?_
            rintro e _ ⟨rfl, rfl⟩
            go_wp2_with fail
            refine (w2 _).mono ?_
            rintro e _ ⟨rfl, rfl⟩
            go_wp2_with fail
            refine (w3 _).mono ?_
            rintro e _ ⟨rfl, rfl⟩
            go_wp2_with fail
            refine (w5 _).mono ?_
            rintro e _ ⟨rfl, rfl⟩
            go_wp2_with fail
            go_ret
            exact ⟨rfl, (Below.refl _ _).alloc (Nat.le_refl _) _⟩
          | true =>
            cases h3 : (r.f3 == 0) with
            | true =>
              simp only [Bool.true_or, Bool.false_and, Bool.and_false, Bool.true_and, Bool.and_true]
              go_enter Try.func36, Try.ntmps36
              go_wp2_with fail
              refine (w0 _).mono ?_
              rintro e _ ⟨rfl, rfl⟩
              go_wp2_with fail
              refine (w1 _).mono ?_
              rintro e _ ⟨rfl, rfl⟩
              go_wp2_with fail
              refine (w2 _).mono ?_
              rintro e _ ⟨rfl, rfl⟩
              go_wp2_with fail
              refine (w3 _).mono ?_
              rintro e _ ⟨rfl, rfl⟩
              go_wp2_with fail
              refine (w5 _).mono ?_
              rintro e _ ⟨rfl, rfl⟩
              go_wp2_with fail
              go_ret
              exact ⟨rfl, (Below.refl _ _).alloc (Nat.le_refl _) _⟩
            | false =>
              cases h5 : (r.f5 == 0) with
              | true =>
                simp only [Bool.or_true, Bool.or_false, Bool.false_or, Bool.false_and, Bool.and_false, Bool.true_and, Bool.and_true]
                go_enter Try.func36, Try.ntmps36
                go_wp2_with fail
                refine (w0 _).mono ?_
                rintro e _ ⟨rfl, rfl⟩
                go_wp2_with fail
                refine (w1 _).mono ?_
                rintro e _ ⟨rfl, rfl⟩
                go_wp2_with fail
                refine (w2 _).mono ?_
                rintro e _ ⟨rfl, rfl⟩
                go_wp2_with fail
                refine (w3 _).mono ?_
                rintro e _ ⟨rfl, rfl⟩
                go_wp2_with fail
                refine (w5 _).mono ?_
                rintro e _ ⟨rfl, rfl⟩
                go_wp2_with fail
                go_ret
                exact ⟨rfl, (Below.refl _ _).alloc (Nat.le_refl _) _⟩
              | false =>
                simp only [Bool.or_true, Bool.or_false, Bool.false_or, Bool.false_and, Bool.and_false, Bool.true_and, Bool.and_true]
                go_enter Try.func36, Try.ntmps36
                go_wp2_with fail
                refine (w0 _).mono ?_
                rintro e _ ⟨rfl, rfl⟩
                go_wp2_with fail
                refine (w1 _).mono ?_
                rintro e _ ⟨rfl, rfl⟩
                go_wp2_with fail
                refine (w2 _).mono ?_
                rintro e _ ⟨rfl, rfl⟩
                go_wp2_with fail
                refine (w3 _).mono ?_
                rintro e _ ⟨rfl, rfl⟩
                go_wp2_with fail
                refine (w5 _).mono ?_
                rintro e _ ⟨rfl, rfl⟩
                go_wp2_with fail
                go_ret
                exact ⟨rfl, (Below.refl _ _).alloc (Nat.le_refl _) _⟩
set_option maxHeartbeats 4000000 in
theorem rightD_any (r : RulN) (w : World) (hi : i64 r.f0) : Calls Try.prog 38 #[encR r] w fun e w' => e = .returned (.bool (okRule r)) ∧ Below w.heap.size w w' := by
  have huR := Try.underlying35
  have huG := Try.underlying33
  simp only [encR]
  have w0 := fun W => withinD_any (wrap64 (r.f0 - 1)) 1048575 W
  rw [inB_wrap r.f0 hi] at w0
  clear hi
  have w1 := fun W => withinD_any r.f1 7 W
  have w2 := fun W => withinD_any r.f2 1024 W
  have w3 := fun W => withinD_any r.f3 3 W
  have w5 := fun W => withinD_any r.f5 3 W
  unfold okRule
  generalize inB r.f0 1 1048576 = bf0 at *
  generalize inB r.f1 0 7 = bf1 at *
  generalize inB r.f2 0 1024 = bf2 at *
  generalize inB r.f3 0 3 = bf3 at *
  generalize inB r.f5 0 3 = bf5 at *
  cases bf0 with
  | false =>
    cases bf2 with
    | false =>
      cases bf5 with
      | false =>
        try simp only [Bool.true_or, Bool.or_true, Bool.or_false, Bool.false_or, Bool.false_and, Bool.and_false, Bool.true_and, Bool.and_true, decide_true, decide_false]
        go_enter Try.func38, Try.ntmps38
        go_wp2_with fail
        refine (w0 _).mono ?_
        rintro e _ ⟨rfl, rfl⟩
        go_wp2_with fail
        refine (w2 _).mono ?_
        rintro e _ ⟨rfl, rfl⟩
        go_wp2_with fail
        refine (w5 _).mono ?_
        rintro e _ ⟨rfl, rfl⟩
        go_wp2_with fail
        go_ret
        exact ⟨rfl, (Below.refl _ _).alloc (Nat.le_refl _) _⟩
      | true =>
        try simp only [Bool.true_or, Bool.or_true, Bool.or_false, Bool.false_or, Bool.false_and, Bool.and_false, Bool.true_and, Bool.and_true, decide_true, decide_false]
        go_enter Try.func38, Try.ntmps38
        go_wp2_with fail
        refine (w0 _).mono ?_
        rintro e _ ⟨rfl, rfl⟩
        go_wp2_with fail
        refine (w2 _).mono ?_
        rintro e _ ⟨rfl, rfl⟩
        go_wp2_with fail
        refine (w5 _).mono ?_
        rintro e _ ⟨rfl, rfl⟩
        go_wp2_with fail
        go_ret
        exact ⟨rfl, (Below.refl _ _).alloc (Nat.le_refl _) _⟩
    | true =>
      cases bf3 with
      | false =>
        cases bf5 with
        | false =>
          try simp only [Bool.true_or, Bool.or_true, Bool.or_false, Bool.false_or, Bool.false_and, Bool.and_false, Bool.true_and, Bool.and_true, decide_true, decide_false]
          go_enter Try.func38, Try.ntmps38
          go_wp2_with fail
          refine (w0 _).mono ?_
          rintro e _ ⟨rfl, rfl⟩
          go_wp2_with fail
          refine (w2 _).mono ?_
          rintro e _ ⟨rfl, rfl⟩
          go_wp2_with fail
          refine (w3 _).mono ?_
          rintro e _ ⟨rfl, rfl⟩
          go_wp2_with fail
          refine (w5 _).mono ?_
          rintro e _ ⟨rfl, rfl⟩
          go_wp2_with fail
          go_ret
          exact ⟨rfl, (Below.refl _ _).alloc (Nat.le_refl _) _⟩
        | true =>
          try simp only [Bool.true_or, Bool.or_true, Bool.or_false, Bool.false_or, Bool.false_and, Bool.and_false, Bool.true_and, Bool.and_true, decide_true, decide_false]
          go_enter Try.func38, Try.ntmps38
          go_wp2_with fail
          refine (w0 _).mono ?_
          rintro e _ ⟨rfl, rfl⟩
          go_wp2_with fail
          refine (w2 _).mono ?_
          rintro e _ ⟨rfl, rfl⟩
          go_wp2_with fail
          refine (w3 _).mono ?_
          rintro e _ ⟨rfl, rfl⟩
          go_wp2_with fail
          refine (w5 _).mono ?_
          rintro e _ ⟨rfl, rfl⟩
          go_wp2_with fail
          go_ret
          exact ⟨rfl, (Below.refl _ _).alloc (Nat.le_refl _) _⟩
      | true =>
        cases bf5 with
        | false =>
          try simp only [Bool.true_or, Bool.or_true, Bool.or_false, Bool.false_or, Bool.false_and, Bool.and_false, Bool.true_and, Bool.and_true, decide_true, decide_false]
          go_enter Try.func38, Try.ntmps38
          go_wp2_with fail
          refine (w0 _).mono ?_
          rintro e _ ⟨rfl, rfl⟩
          go_wp2_with fail
          refine (w2 _).mono ?_
          rintro e _ ⟨rfl, rfl⟩
          go_wp2_with fail
          refine (w3 _).mono ?_
          rintro e _ ⟨rfl, rfl⟩
          go_wp2_with fail
          refine (w5 _).mono ?_
          rintro e _ ⟨rfl, rfl⟩
          go_wp2_with fail
          go_ret
          exact ⟨rfl, (Below.refl _ _).alloc (Nat.le_refl _) _⟩
        | true =>
          try simp only [Bool.true_or, Bool.or_true, Bool.or_false, Bool.false_or, Bool.false_and, Bool.and_false, Bool.true_and, Bool.and_true, decide_true, decide_false]
          go_enter Try.func38, Try.ntmps38
          go_wp2_with fail
          refine (w0 _).mono ?_
          rintro e _ ⟨rfl, rfl⟩
          go_wp2_with fail
          refine (w2 _).mono ?_
          rintro e _ ⟨rfl, rfl⟩
          go_wp2_with fail
          refine (w3 _).mono ?_
          rintro e _ ⟨rfl, rfl⟩
          go_wp2_with fail
          refine (w5 _).mono ?_
          rintro e _ ⟨rfl, rfl⟩
          go_wp2_with fail
          go_ret
          exact ⟨rfl, (Below.refl _ _).alloc (Nat.le_refl _) _⟩
  | true =>
    cases bf1 with
    | false =>
      cases bf2 with
      | false =>
        cases bf5 with
        | false =>
          try simp only [Bool.true_or, Bool.or_true, Bool.or_false, Bool.false_or, Bool.false_and, Bool.and_false, Bool.true_and, Bool.and_true, decide_true, decide_false]
          go_enter Try.func38, Try.ntmps38
          go_wp2_with fail
          refine (w0 _).mono ?_
          rintro e _ ⟨rfl, rfl⟩
          go_wp2_with fail
          refine (w1 _).mono ?_
          rintro e _ ⟨rfl, rfl⟩
          go_wp2_with fail
          refine (w2 _).mono ?_
          rintro e _ ⟨rfl, rfl⟩
          go_wp2_with fail
          refine (w5 _).mono ?_
          rintro e _ ⟨rfl, rfl⟩
          go_wp2_with fail
          go_ret
          exact ⟨rfl, (Below.refl _ _).alloc (Nat.le_refl _) _⟩
        | true =>
          try simp only [Bool.true_or, Bool.or_true, Bool.or_false, Bool.false_or, Bool.false_and, Bool.and_false, Bool.true_and, Bool.and_true, decide_true, decide_false]
          go_enter Try.func38, Try.ntmps38
          go_wp2_with fail
          refine (w0 _).mono ?_
          rintro e _ ⟨rfl, rfl⟩
          go_wp2_with fail
          refine (w1 _).mono ?_
          rintro e _ ⟨rfl, rfl⟩
          go_wp2_with fail
          refine (w2 _).mono ?_
          rintro e _ ⟨rfl, rfl⟩
          go_wp2_with fail
          refine (w5 _).mono ?_
          rintro e _ ⟨rfl, rfl⟩
          go_wp2_with fail
          go_ret
          exact ⟨rfl, (Below.refl _ _).alloc (Nat.le_refl _) _⟩
      | true =>
        cases bf3 with
        | false =>
          cases bf5 with
          | false =>
            try simp only [Bool.true_or, Bool.or_true, Bool.or_false, Bool.false_or, Bool.false_and, Bool.and_false, Bool.true_and, Bool.and_true, decide_true, decide_false]
            go_enter Try.func38, Try.ntmps38
            go_wp2_with fail
            refine (w0 _).mono ?_
            rintro e _ ⟨rfl, rfl⟩
            go_wp2_with fail
            refine (w1 _).mono ?_
            rintro e _ ⟨rfl, rfl⟩
            go_wp2_with fail
            refine (w2 _).mono ?_
            rintro e _ ⟨rfl, rfl⟩
            go_wp2_with fail
            refine (w3 _).mono ?_
            rintro e _ ⟨rfl, rfl⟩
            go_wp2_with fail
            refine (w5 _).mono ?_
            rintro e _ ⟨rfl, rfl⟩
            go_wp2_with fail
            go_ret
            exact ⟨rfl, (Below.refl _ _).alloc (Nat.le_refl _) _⟩
          | true =>
            try simp only [Bool.true_or, Bool.or_true, Bool.or_false, Bool.false_or, Bool.false_and, Bool.and_false, Bool.true_and, Bool.and_true, decide_true, decide_false]
            go_enter Try.func38, Try.ntmps38
            go_wp2_with fail
            refine (w0 _).mono ?_
            rintro e _ ⟨rfl, rfl⟩
            go_wp2_with fail
            refine (w1 _).mono ?_
            rintro e _ ⟨rfl, rfl⟩
            go_wp2_with fail
            refine (w2 _).mono ?_
            rintro e _ ⟨rfl, rfl⟩
            go_wp2_with fail
            refine (w3 _).mono ?_
            rintro e _ ⟨rfl, rfl⟩
            go_wp2_with fail
            refine (w5 _).mono ?_
            rintro e _ ⟨rfl, rfl⟩
            go_wp2_with fail
            go_ret
            exact ⟨rfl, (Below.refl _ _).alloc (Nat.le_refl _) _⟩
        | true =>
          cases bf5 with
          | false =>
            try simp only [Bool.true_or, Bool.or_true, Bool.or_false, Bool.false_or, Bool.false_and, Bool.and_false, Bool.true_and, Bool.and_true, decide_true, decide_false]
            go_enter Try.func38, Try.ntmps38
            go_wp2_with fail
            refine (w0 _).mono ?_
            rintro e _ ⟨rfl, rfl⟩
            go_wp2_with fail
            refine (w1 _).mono ?_
            rintro e _ ⟨rfl, rfl⟩
            go_wp2_with fail
            refine (w2 _).mono ?_
            rintro e _ ⟨rfl, rfl⟩
            go_wp2_with fail
            refine (w3 _).mono ?_
            rintro e _ ⟨rfl, rfl⟩
            go_wp2_with fail
            refine (w5 _).mono ?_
            rintro e _ ⟨rfl, rfl⟩
            go_wp2_with fail
            go_ret
            exact ⟨rfl, (Below.refl _ _).alloc (Nat.le_refl _) _⟩
          | true =>
            try simp only [Bool.true_or, Bool.or_true, Bool.or_false, Bool.false_or, Bool.false_and, Bool.and_false, Bool.true_and, Bool.and_true, decide_true, decide_false]
            go_enter Try.func38, Try.ntmps38
            go_wp2_with fail
            refine (w0 _).mono ?_
            rintro e _ ⟨rfl, rfl⟩
            go_wp2_with fail
            refine (w1 _).mono ?_
            rintro e _ ⟨rfl, rfl⟩
            go_wp2_with fail
            refine (w2 _).mono ?_
            rintro e _ ⟨rfl, rfl⟩
            go_wp2_with fail
            refine (w3 _).mono ?_
            rintro e _ ⟨rfl, rfl⟩
            go_wp2_with fail
            refine (w5 _).mono ?_
            rintro e _ ⟨rfl, rfl⟩
            go_wp2_with fail
            go_ret
            exact ⟨rfl, (Below.refl _ _).alloc (Nat.le_refl _) _⟩
    | true =>
      cases bf2 with
      | false =>
        cases bf5 with
        | false =>
          try simp only [Bool.true_or, Bool.or_true, Bool.or_false, Bool.false_or, Bool.false_and, Bool.and_false, Bool.true_and, Bool.and_true, decide_true, decide_false]
          go_enter Try.func38, Try.ntmps38
          go_wp2_with fail
          refine (w0 _).mono ?_
          rintro e _ ⟨rfl, rfl⟩
          go_wp2_with fail
          refine (w1 _).mono ?_
          rintro e _ ⟨rfl, rfl⟩
          go_wp2_with fail
          refine (w2 _).mono ?_
          rintro e _ ⟨rfl, rfl⟩
          go_wp2_with fail
          refine (w5 _).mono ?_
          rintro e _ ⟨rfl, rfl⟩
          go_wp2_with fail
          go_ret
          exact ⟨rfl, (Below.refl _ _).alloc (Nat.le_refl _) _⟩
        | true =>
          try simp only [Bool.true_or, Bool.or_true, Bool.or_false, Bool.false_or, Bool.false_and, Bool.and_false, Bool.true_and, Bool.and_true, decide_true, decide_false]
          go_enter Try.func38, Try.ntmps38
          go_wp2_with fail
          refine (w0 _).mono ?_
          rintro e _ ⟨rfl, rfl⟩
          go_wp2_with fail
          refine (w1 _).mono ?_
          rintro e _ ⟨rfl, rfl⟩
          go_wp2_with fail
          refine (w2 _).mono ?_
          rintro e _ ⟨rfl, rfl⟩
          go_wp2_with fail
          refine (w5 _).mono ?_
          rintro e _ ⟨rfl, rfl⟩
          go_wp2_with fail
          go_ret
          exact ⟨rfl, (Below.refl _ _).alloc (Nat.le_refl _) _⟩
      | true =>
        cases bf3 with
        | false =>
          cases bf5 with
          | false =>
            try simp only [Bool.true_or, Bool.or_true, Bool.or_false, Bool.false_or, Bool.false_and, Bool.and_false, Bool.true_and, Bool.and_true, decide_true, decide_false]
            go_enter Try.func38, Try.ntmps38
            go_wp2_with fail
            refine (w0 _).mono ?_
            rintro e _ ⟨rfl, rfl⟩
            go_wp2_with fail
            refine (w1 _).mono ?_
            rintro e _ ⟨rfl, rfl⟩
            go_wp2_with fail
            refine (w2 _).mono ?_
            rintro e _ ⟨rfl, rfl⟩
            go_wp2_with fail
            refine (w3 _).mono ?_
            rintro e _ ⟨rfl, rfl⟩
            go_wp2_with fail
            refine (w5 _).mono ?_
            rintro e _ ⟨rfl, rfl⟩
            go_wp2_with fail
            go_ret
            exact ⟨rfl, (Below.refl _ _).alloc (Nat.le_refl _) _⟩
          | true =>
            try simp only [Bool.true_or, Bool.or_true, Bool.or_false, Bool.false_or, Bool.false_and, Bool.and_false, Bool.true_and, Bool.and_true, decide_true, decide_false]
            go_enter Try.func38, Try.ntmps38
            go_wp2_with fail
            refine (w0 _).mono ?_
            rintro e _ ⟨rfl, rfl⟩
            go_wp2_with fail
            refine (w1 _).mono ?_
            rintro e _ ⟨rfl, rfl⟩
            go_wp2_with fail
            refine (w2 _).mono ?_
            rintro e _ ⟨rfl, rfl⟩
            go_wp2_with fail
            refine (w3 _).mono ?_
            rintro e _ ⟨rfl, rfl⟩
            go_wp2_with fail
            refine (w5 _).mono ?_
            rintro e _ ⟨rfl, rfl⟩
            go_wp2_with fail
            go_ret
            exact ⟨rfl, (Below.refl _ _).alloc (Nat.le_refl _) _⟩
        | true =>
          cases bf5 with
          | false =>
            try simp only [Bool.true_or, Bool.or_true, Bool.or_false, Bool.false_or, Bool.false_and, Bool.and_false, Bool.true_and, Bool.and_true, decide_true, decide_false]
            go_enter Try.func38, Try.ntmps38
            go_wp2_with fail
            refine (w0 _).mono ?_
            rintro e _ ⟨rfl, rfl⟩
            go_wp2_with fail
            refine (w1 _).mono ?_
            rintro e _ ⟨rfl, rfl⟩
            go_wp2_with fail
            refine (w2 _).mono ?_
            rintro e _ ⟨rfl, rfl⟩
            go_wp2_with fail
            refine (w3 _).mono ?_
            rintro e _ ⟨rfl, rfl⟩
            go_wp2_with fail
            refine (w5 _).mono ?_
            rintro e _ ⟨rfl, rfl⟩
            go_wp2_with fail
            go_ret
            exact ⟨rfl, (Below.refl _ _).alloc (Nat.le_refl _) _⟩
          | true =>
            cases hle : decide (r.f4.f0 ≤ r.f4.f1) with
            | false =>
              try simp only [Bool.true_or, Bool.or_true, Bool.or_false, Bool.false_or, Bool.false_and, Bool.and_false, Bool.true_and, Bool.and_true, decide_true, decide_false]
              go_enter Try.func38, Try.ntmps38
              go_wp2_with fail
              refine (w0 _).mono ?_
              rintro e _ ⟨rfl, rfl⟩
              go_wp2_with fail
              refine (w1 _).mono ?_
              rintro e _ ⟨rfl, rfl⟩
              go_wp2_with fail
              refine (w2 _).mono ?_
              rintro e _ ⟨rfl, rfl⟩
              go_wp2_with fail
              refine (w3 _).mono ?_
              rintro e _ ⟨rfl, rfl⟩
              go_wp2_with fail
              refine (w5 _).mono ?_
              rintro e _ ⟨rfl, rfl⟩
              go_wp2_with fail
              go_ret
              exact ⟨rfl, (Below.refl _ _).alloc (Nat.le_refl _) _⟩
            | true =>
              cases h3 : (r.f3 == 0) with
              | false =>
                cases h5 : (r.f5 == 0) with
                | false =>
                  try simp only [Bool.true_or, Bool.or_true, Bool.or_false, Bool.false_or, Bool.false_and, Bool.and_false, Bool.true_and, Bool.and_true, decide_true, decide_false]
                  go_enter Try.func38, Try.ntmps38
                  go_wp2_with fail
                  refine (w0 _).mono ?_
                  rintro e _ ⟨rfl, rfl⟩
                  go_wp2_with fail
                  refine (w1 _).mono ?_
                  rintro e _ ⟨rfl, rfl⟩
                  go_wp2_with fail
                  refine (w2 _).mono ?_
                  rintro e _ ⟨rfl, rfl⟩
                  go_wp2_with fail
                  refine (w3 _).mono ?_
                  rintro e _ ⟨rfl, rfl⟩
                  go_wp2_with fail
                  refine (w5 _).mono ?_
                  rintro e _ ⟨rfl, rfl⟩
                  go_wp2_with fail
                  go_ret
                  exact ⟨rfl, (Below.refl _ _).alloc (Nat.le_refl _) _⟩
                | true =>
                  try simp only [Bool.true_or, Bool.or_true, Bool.or_false, Bool.false_or, Bool.false_and, Bool.and_false, Bool.true_and, Bool.and_true, decide_true, decide_false]
                  go_enter Try.func38, Try.ntmps38
                  go_wp2_with fail
                  refine (w0 _).mono ?_
                  rintro e _ ⟨rfl, rfl⟩
                  go_wp2_with fail
                  refine (w1 _).mono ?_
                  rintro e _ ⟨rfl, rfl⟩
                  go_wp2_with fail
                  refine (w2 _).mono ?_
                  rintro e _ ⟨rfl, rfl⟩
                  go_wp2_with fail
                  refine (w3 _).mono ?_
                  rintro e _ ⟨rfl, rfl⟩
                  go_wp2_with fail
                  refine (w5 _).mono ?_
                  rintro e _ ⟨rfl, rfl⟩
                  go_wp2_with fail
                  go_ret
                  exact ⟨rfl, (Below.refl _ _).alloc (Nat.le_refl _) _⟩
              | true =>
                try simp only [Bool.true_or, Bool.or_true, Bool.or_false, Bool.false_or, Bool.false_and, Bool.and_false, Bool.true_and, Bool.and_true, decide_true, decide_false]
                go_enter Try.func38, Try.ntmps38
                go_wp2_with fail
                refine (w0 _).mono ?_
                rintro e _ ⟨rfl, rfl⟩
                go_wp2_with fail
                refine (w1 _).mono ?_
                rintro e _ ⟨rfl, rfl⟩
                go_wp2_with fail
                refine (w2 _).mono ?_
                rintro e _ ⟨rfl, rfl⟩
                go_wp2_with fail
                refine (w3 _).mono ?_
                rintro e _ ⟨rfl, rfl⟩
                go_wp2_with fail
                refine (w5 _).mono ?_
                rintro e _ ⟨rfl, rfl⟩
                go_wp2_with fail
                go_ret
                exact ⟨rfl, (Below.refl _ _).alloc (Nat.le_refl _) _⟩
end Go.Proofs.Ytckjhdlpbfcaiaa.H
