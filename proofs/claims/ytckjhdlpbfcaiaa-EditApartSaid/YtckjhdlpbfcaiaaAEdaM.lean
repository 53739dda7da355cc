/- EdaM. -/
import Derived.Test.YtckjhdlpbfcaiaaAEdaL
namespace Go.Proofs.Ytckjhdlpbfcaiaa.H
open Go.RowKit Go.Proofs.Ytckjhdlpbfcaiaa.P Go.Proofs.YtckjhdlpbfcaiaaW.PrintWords Go.Proofs.YtckjhdlpbfcaiaaW.PrintLast Go.Proofs.YtckjhdlpbfcaiaaW.PrintMore
set_option linter.unusedVariables false
set_option linter.unusedSimpArgs false
set_option maxRecDepth 20000
def un (e : Edi) : Int × Rul := (e.f0, e.f1)
theorem applyE_f (l : List Rul) (hl : l.length ≤ 1000) (h : Rising l) (k : Int) (r : Rul) : E.edit_Apply.f l k r.f0 r.f1 r.f2 r.f3 r.f4.f0 r.f4.f1 r.f5 = some (applyK codesE 40 okRule l k r) := by
  unfold E.edit_Apply.f
  rw [if_pos (by omega)]
  show some ((applyL l k r).1, (applyL l k r).2) = _
  rw [applyL_K h]
theorem allE_l0 (es : List Edi) (hes : es.length ≤ 9223372036854775807) (d : Nat) : ∀ (j : Nat) (l : List Rul), j ≤ es.length → es.length - j = d → GoodL 40 okRule l →
    Ev (fun k => E.edit_All.l0 k l es es (es.length : Int) (j : Int)) (allK codesE 40 okRule l (j : Int) ((es.drop j).map un)) := by
  induction d with
  | zero =>
    intro j l hj hd hg
    obtain rfl : j = es.length := by omega
    refine Ev.step (fun k => by rw [E.edit_All.l0, if_neg (by omega)]) ?_
    rw [List.drop_length]
    exact Ev.now _
  | succ d ih =>
    intro j l hj hd hg
    have hlt : j < es.length := by omega
    have hle := hg.le
    refine Ev.step (fun k => by rw [E.edit_All.l0, if_pos (by omega), if_pos (by omega), if_pos (by omega), rd_edit es j hlt, applyE_f l (by omega) hg.up, Option.bind_some, wrap_up hlt hes]) ?_
    rw [List.drop_eq_getElem_cons hlt, List.map_cons, allK_cons]
    show Ev _ (if (applyK codesE 40 okRule l es[j].f0 es[j].f1).2 ≠ 0 then _ else _)
    by_cases c : (applyK codesE 40 okRule l es[j].f0 es[j].f1).2 = 0
    · rw [if_neg (fun q => q c)]
      refine Ev.congr (fun k => if_pos c) ?_
      have := ih (j + 1) _ (by omega) (by omega) (apply_good codesE_ok hg c)
      exact this
    · rw [if_pos c]
      refine Ev.congr (fun k => if_neg c) ?_
      exact Ev.now _
theorem allE_ev (l : List Rul) (es : List Edi) (hes : es.length ≤ 9223372036854775807) (hg : GoodL 40 okRule l) : Ev (fun k => E.edit_All.f k l es) (allK codesE 40 okRule l 0 (es.map un)) := by
  unfold E.edit_All.f E.api_Rule_30.f
  have hle := hg.le
  rw [if_pos (by omega)]
  simp only [Option.bind_some]
  have := allE_l0 es hes _ 0 l (Nat.zero_le _) rfl hg
  rwa [List.drop_zero] at this
theorem allK_two (l : List Rul) (a b : Edi) : allK codesE 40 okRule l 0 [un a, un b] = if (applyK codesE 40 okRule l a.f0 a.f1).2 ≠ 0 then ([], 0, (applyK codesE 40 okRule l a.f0 a.f1).2) else
    if (applyK codesE 40 okRule (applyK codesE 40 okRule l a.f0 a.f1).1 b.f0 b.f1).2 ≠ 0 then ([], 1, (applyK codesE 40 okRule (applyK codesE 40 okRule l a.f0 a.f1).1 b.f0 b.f1).2) else ((applyK codesE 40 okRule (applyK codesE 40 okRule l a.f0 a.f1).1 b.f0 b.f1).1, 2, 0) := by
  rw [allK_cons, allK_cons]
  rfl
theorem editApart_ev (l : List Rul) (a b : Edi) (hi : ∀ r ∈ l, i64 r.f0) :
    Ev (fun k => E.waystonelaw14_EditApart.f k l a.f0 a.f1.f0 a.f1.f1 a.f1.f2 a.f1.f3 a.f1.f4.f0 a.f1.f4.f1 a.f1.f5 b.f0 b.f1.f0 b.f1.f1 b.f1.f2 b.f1.f3 b.f1.f4.f0 b.f1.f4.f1 b.f1.f5) true := by
  have out : Ev (fun k => E.waystonelaw14_EditApart.j0 k l true a.f0 a.f1.f0 a.f1.f1 a.f1.f2 a.f1.f3 a.f1.f4.f0 a.f1.f4.f1 a.f1.f5 b.f0 b.f1.f0 b.f1.f1 b.f1.f2 b.f1.f3 b.f1.f4.f0 b.f1.f4.f1 b.f1.f5) true := by
    refine Ev.step (fun k => by rw [E.waystonelaw14_EditApart.j0, if_pos rfl]) ?_
    exact Ev.bind alive_ev (Ev.now _)
  have out1 : ∀ x n y m, Ev (fun k => E.waystonelaw14_EditApart.j1 k x n y m true) true := fun x n y m => by
    refine Ev.step (fun k => by rw [E.waystonelaw14_EditApart.j1, if_pos rfl]) ?_
    exact Ev.bind alive_ev (Ev.now _)
  refine Ev.bind (fits_ev l hi) ?_
  cases h1 : (decide (l.length ≤ 60) && allB l) with
  | false => exact Ev.congr (fun k => if_neg (by decide)) out
  | true =>
    have hg := fits_good h1
    refine Ev.congr (fun k => if_pos rfl) ?_
    by_cases c : a.f1.f0 = b.f1.f0
    · rw [show (a.f1.f0 == b.f1.f0) = true from by simpa using c]
      exact out
    · rw [show (a.f1.f0 == b.f1.f0) = false from by simpa using c]
      refine Ev.step (fun k => by rw [E.waystonelaw14_EditApart.j0, if_neg (by decide)]) ?_
      refine Ev.bind (allE_ev l [a, b] (by simp) hg) (Ev.bind (allE_ev l [b, a] (by simp) hg) ?_)
      show Ev (fun k => if (allK codesE 40 okRule l 0 [un a, un b]).2.2 = 0 then E.waystonelaw14_EditApart.j1 k (allK codesE 40 okRule l 0 [un a, un b]).1 (allK codesE 40 okRule l 0 [un a, un b]).2.1 (allK codesE 40 okRule l 0 [un b, un a]).1 (allK codesE 40 okRule l 0 [un b, un a]).2.1 ((allK codesE 40 okRule l 0 [un b, un a]).2.2 != 0) else E.waystonelaw14_EditApart.j1 k (allK codesE 40 okRule l 0 [un a, un b]).1 (allK codesE 40 okRule l 0 [un a, un b]).2.1 (allK codesE 40 okRule l 0 [un b, un a]).1 (allK codesE 40 okRule l 0 [un b, un a]).2.1 true) true
      by_cases e1 : (allK codesE 40 okRule l 0 [un a, un b]).2.2 = 0
      · refine Ev.congr (fun k => if_pos e1) ?_
        by_cases e2 : (allK codesE 40 okRule l 0 [un b, un a]).2.2 = 0
        · rw [show ((allK codesE 40 okRule l 0 [un b, un a]).2.2 != 0) = false from by simpa using e2]
          rw [allK_two] at e1 e2 ⊢
          rw [allK_two]
          by_cases p1 : (applyK codesE 40 okRule l a.f0 a.f1).2 = 0
          · rw [if_neg (fun q => q p1)] at e1 ⊢
            by_cases p2 : (applyK codesE 40 okRule (applyK codesE 40 okRule l a.f0 a.f1).1 b.f0 b.f1).2 = 0
            · rw [if_neg (fun q => q p2)] at e1 ⊢
              by_cases p3 : (applyK codesE 40 okRule l b.f0 b.f1).2 = 0
              · rw [if_neg (fun q => q p3)] at e2 ⊢
                by_cases p4 : (applyK codesE 40 okRule (applyK codesE 40 okRule l b.f0 b.f1).1 a.f0 a.f1).2 = 0
                · rw [if_neg (fun q => q p4)] at e2 ⊢
                  have he := apply_apart codesE_ok hg c p1 p2 p3 p4
                  have hlen := (apply_good codesE_ok (apply_good codesE_ok hg p1) p2).le
                  dsimp only
                  rw [← he]
                  refine Ev.step (fun k => by rw [E.waystonelaw14_EditApart.j1, if_neg (by decide)]) ?_
                  refine Ev.bind (same_rules _ (by omega)) (Ev.bind alive_ev ?_)
                  exact Ev.congr (fun k => if_pos rfl) (Ev.congr (fun k => if_pos rfl) (Ev.congr (fun k => if_pos rfl) (Ev.now _)))
                · rw [if_pos p4] at e2
                  exact absurd e2 p4
              · rw [if_pos p3] at e2
                exact absurd e2 p3
            · rw [if_pos p2] at e1
              exact absurd e1 p2
          · rw [if_pos p1] at e1
            exact absurd e1 p1
        · rw [show ((allK codesE 40 okRule l 0 [un b, un a]).2.2 != 0) = true from by simpa using e2]
          exact out1 _ _ _ _
      · refine Ev.congr (fun k => if_neg e1) ?_
        exact out1 _ _ _ _
end Go.Proofs.Ytckjhdlpbfcaiaa.H
