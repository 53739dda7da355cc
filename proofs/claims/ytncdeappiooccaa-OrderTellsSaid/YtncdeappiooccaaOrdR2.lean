/- The document's answer for lists that respect a history. -/
import Derived.Test.YtncdeappiooccaaOrdR1
namespace Go.Proofs.Ytncdeappiooccaa.H
open Go.RowKit Go.Proofs.Ytncdeappiooccaa.P Go.Proofs.YtncdeappiooccaaW.PrintWords Go.Proofs.YtncdeappiooccaaW.PrintLast Go.Proofs.YtncdeappiooccaaW.PrintMore
set_option linter.unusedVariables false
set_option linter.unusedSimpArgs false
theorem has_l0 (l : List Int) (a : Int) (hl : l.length ≤ 1000) (d : Nat) : ∀ j : Nat, j ≤ l.length → l.length - j = d → ¬ a ∈ l.take j → Ev (fun k => T.waystoneref09_Has.l0 k l a (j : Int)) (decide (a ∈ l)) := by
  induction d with
  | zero =>
    intro j hj hd hn
    obtain rfl : j = l.length := by omega
    rw [List.take_length] at hn
    refine Ev.step (fun k => by rw [T.waystoneref09_Has.l0]) ?_
    simp only [Int.lt_irrefl, if_false]
    exact evCast (Ev.now _) (decide_eq_false hn).symm
  | succ d ih =>
    intro j hj hd hn
    have hlt : j < l.length := by omega
    have ih := ih (j + 1) (by omega) (by omega)
    refine Ev.step (fun k => by rw [T.waystoneref09_Has.l0]) ?_
    simp only [show ((j : Int) < (l.length : Int)) from by omega, show (0 : Int) ≤ (j : Int) from by omega, if_true, w64' j (by omega), rdI l j hlt]
    rw [List.take_succ_eq_append_getElem hlt, List.mem_append, List.mem_singleton] at ih
    by_cases c : l[j] = a
    · simp only [c, if_true]
      exact evCast (Ev.now _) (decide_eq_true (by rw [← c]; exact List.getElem_mem hlt)).symm
    · simp only [c, if_false]
      exact ih fun o => o.elim hn fun e => c e.symm
theorem has_ev (l : List Int) (a : Int) (hl : l.length ≤ 1000) : Ev (fun k => T.waystoneref09_Has.f k l a) (decide (a ∈ l)) := has_l0 l a hl l.length 0 (Nat.zero_le _) (by omega) (by simp)
theorem lt_fold (h : List S47) (v : Int) : ∀ (pre : List Int) (m : Int), v < pre.foldl (fun m id => max m (posE h ⟨1, id⟩)) m ↔ v < m ∨ ∃ x ∈ pre, v < posE h ⟨1, x⟩
  | [], m => by simp
  | y :: t, m => by
    rw [List.foldl_cons, lt_fold h v t]
    constructor
    · rintro (o | ⟨x, h1, h2⟩)
      · rcases Int.lt_or_le v m with o2 | o2
        · exact .inl o2
        · exact .inr ⟨y, List.mem_cons_self, by omega⟩
      · exact .inr ⟨x, List.mem_cons_of_mem _ h1, h2⟩
    · rintro (o | ⟨x, h1, h2⟩)
      · exact .inl (by omega)
      · rw [List.mem_cons] at h1
        rcases h1 with rfl | h1
        · exact .inl (by omega)
        · exact .inr ⟨x, h1, h2⟩
theorem turned_iff (h : List S47) (hr : rightH h = true) (pre : List Int) (id : Int) : (decide (0 < posE h ⟨3, id⟩) && decide (posE h ⟨3, id⟩ < lastE h pre)) = pre.any fun x => aheadH h id x := by
  rw [Bool.eq_iff_iff, Bool.and_eq_true, decide_eq_true_iff, decide_eq_true_iff, List.any_eq_true]
  unfold lastE
  rw [lt_fold]
  constructor
  · rintro ⟨h1, h2 | ⟨x, h2, h3⟩⟩
    · omega
    · exact ⟨x, h2, (ahead_iff h hr id x).2 ⟨h1, h3⟩⟩
  · rintro ⟨x, h2, h3⟩
    have := (ahead_iff h hr id x).1 h3
    exact ⟨this.1, .inr ⟨x, h2, this.2⟩⟩
theorem ints_l0 (l : List Int) (hl : l.length ≤ 1000) (d : Nat) : ∀ j : Nat, j ≤ l.length → l.length - j = d → Ev (fun k => T.waystoneref06_Ints.l0 k l l (j : Int)) true := by
  induction d with
  | zero =>
    intro j hj hd
    obtain rfl : j = l.length := by omega
    refine Ev.step (fun k => by rw [T.waystoneref06_Ints.l0]) ?_
    simp only [Int.lt_irrefl, if_false]
    exact Ev.now _
  | succ d ih =>
    intro j hj hd
    have ih := ih (j + 1) (by omega) (by omega)
    refine Ev.step (fun k => by rw [T.waystoneref06_Ints.l0]) ?_
    simp only [show ((j : Int) < (l.length : Int)) from by omega, show (0 : Int) ≤ (j : Int) from by omega, if_true, w64' j (by omega)]
    exact ih
theorem ints_ev (l : List Int) (hl : l.length ≤ 1000) : Ev (fun k => T.waystoneref06_Ints.f k l l) true := by
  unfold T.waystoneref06_Ints.f
  simp only [if_true]
  exact ints_l0 l hl l.length 0 (Nat.zero_le _) (by omega)
end Go.Proofs.Ytncdeappiooccaa.H
