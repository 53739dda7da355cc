/- FatL2. -/
import Derived.Test.YtkjighagiecbaaaDFatL1
import Derived.Test.YtkjighagiecbaaaDEx4
import Derived.Test.YtkjighagiecbaaaDEx5
namespace Go.Proofs.Ytkjighagiecbaaa.H
open Go.RowKit Go.Proofs.Ytkjighagiecbaaa.P Go.Proofs.YtkjighagiecbaaaW.PrintWords Go.Proofs.YtkjighagiecbaaaW.PrintLast Go.Proofs.YtkjighagiecbaaaW.PrintMore
set_option linter.unusedVariables false
set_option linter.unusedSimpArgs false
theorem genuineE_ev (l0 : List Int) (l1 : List S66) (l2 : List Rul) (hs : sizesN l1 l2) (a d : Int) (rest : List Int) (f x y : Int) (hl : (d :: rest).length ≤ 9223372036854775807) :
    E.fate_Genuine.f l0 l1 l2 a (d :: rest) f x y = some (decide ((traceF l0 l1 l2 d a).2.2.2.2 = 0) && sameT (d :: rest) f x y (traceF l0 l1 l2 d a).1 (traceF l0 l1 l2 d a).2.1 (traceF l0 l1 l2 d a).2.2.1 (traceF l0 l1 l2 d a).2.2.2.1) := by
  unfold E.fate_Genuine.f
  have h0 : ¬ (((d :: rest).length : Int) = 0) := by rw [List.length_cons]; omega
  have h1 : (0 : Int) < ((d :: rest).length : Int) := by rw [List.length_cons]; omega
  simp only [if_neg h0, if_pos h1, show rd (d :: rest) 0 = d from rfl, traceE l0 l1 l2 hs, Option.bind_some]
  by_cases he : (traceF l0 l1 l2 d a).2.2.2.2 = 0
  · simp only [if_pos he, decide_eq_true he, Bool.true_and]
    simp only [E.fate_Same.f, Option.bind_some]
  · simp only [if_neg he, decide_eq_false he, Bool.false_and]
theorem tells_ev (l0 : List Int) (l1 : List S66) (l2 : List Rul) (d a : Int) (hi : idsB l2 = true) : Ev (fun k => E.waystonelaw09_FateTells.f k l0 l1 l2 d a) true := by
  have alive : ∀ f : Bool, f = true → Ev (fun k => E.waystonelaw09_FateTells.j0 k d a f l0 l1 l2) true := by
    intro f h
    subst h
    refine Ev.step (fun k => by rw [E.waystonelaw09_FateTells.j0]) ?_
    simp only [if_true, E.waystonelaw09_alive.f, Option.bind_some]
    exact Ev.now _
  unfold E.waystonelaw09_FateTells.f
  by_cases h0 : (l0.length : Int) > 20
  · simp only [if_pos h0]
    exact alive _ rfl
  · by_cases h1 : (l1.length : Int) > 40
    · simp only [if_neg h0, if_pos h1]
      exact alive _ rfl
    · simp only [if_neg h0, if_neg h1]
      by_cases h2 : (l2.length : Int) > 60
      · exact alive _ (by simpa using h2)
      · rw [decide_eq_false h2]
        have hs : sizesN l1 l2 := ⟨by omega, by omega⟩
        refine Ev.step (fun k => by rw [E.waystonelaw09_FateTells.j0]) ?_
        have hR : E.waystoneref09_Right.f l0 l1 l2 = some (rightN l0 l1 l2) := by
          unfold E.waystoneref09_Right.f
          rw [if_pos ⟨by omega, by omega, hi⟩]
        simp only [Bool.false_eq_true, if_false, hR, E.fate_Right.f, Option.bind_some, bne_self_eq_false]
        cases hr : rightN l0 l1 l2 with
        | false =>
          simp only [Bool.false_eq_true, if_false, E.waystonelaw09_alive.f, Option.bind_some]
          exact Ev.now _
        | true =>
          have hT : E.waystoneref09_Trace.f l0 l1 l2 d a = some (traceF l0 l1 l2 d a) := by
            unfold E.waystoneref09_Trace.f
            rw [if_pos hr]
          have hS : E.waystoneref09_Step.f l0 l1 l2 d a = some ((stepP l1 l2 a d).1, (stepP l1 l2 a d).2.1, (stepP l1 l2 a d).2.2) := by
            unfold E.waystoneref09_Step.f
            rw [if_pos hr]
          have hP : E.fate_Step.f l0 l1 l2 d a = some ((stepP l1 l2 a d).1, (stepP l1 l2 a d).2.1, (stepP l1 l2 a d).2.2) := by
            unfold E.fate_Step.f
            rw [if_pos hs.1]
          simp only [if_true, traceE l0 l1 l2 hs, hT, Option.bind_some]
          have hlen := traceF_len l0 l1 l2 d a hs
          simp only [E.waystoneref09_Same.f, sameT_self, Option.bind_some, if_true]
          have hhead := traceF_head l0 l1 l2 d a
          obtain ⟨X, F, x, y, er, hq⟩ : ∃ X F x y er, traceF l0 l1 l2 d a = (X, F, x, y, er) := ⟨_, _, _, _, _, rfl⟩
          rw [hq] at hlen hhead ⊢
          refine Ev.step (fun k => by rw [E.waystonelaw09_FateTells.j1]) ?_
          dsimp only at hhead hlen ⊢
          by_cases he : er = 0
          · have hne : (er != 0) = false := by simp [he]
            simp only [hne, Bool.false_eq_true, if_false, hP, hS, Option.bind_some, E.waystonelaw09_alive.f, if_true, beq_self_eq_true, Bool.and_self]
            obtain ⟨rest, rfl⟩ := hhead he
            have hg := genuineE_ev l0 l1 l2 hs a d rest F x y hlen
            rw [hq] at hg
            dsimp only at hg
            rw [decide_eq_true he, sameT_self, Bool.and_true] at hg
            simp only [hg, E.fate_Same.f, sameT_self, Option.bind_some, if_true]
            exact Ev.now _
          · have hne : (er != 0) = true := by simp [he]
            simp only [hne, if_true, E.waystonelaw09_alive.f, Option.bind_some]
            exact Ev.now _
end Go.Proofs.Ytkjighagiecbaaa.H
