/- EdaQ. -/
import Derived.Test.YtckjhdlpbfcaiaaDEdaO
import Derived.Test.YtckjhdlpbfcaiaaDEdaX
namespace Go.Proofs.Ytckjhdlpbfcaiaa.H
open Go.RowKit Go.Proofs.Ytckjhdlpbfcaiaa.P Go.Proofs.YtckjhdlpbfcaiaaW.PrintWords Go.Proofs.YtckjhdlpbfcaiaaW.PrintLast Go.Proofs.YtckjhdlpbfcaiaaW.PrintMore
set_option linter.unusedVariables false
set_option linter.unusedSimpArgs false
set_option maxRecDepth 20000
theorem rightP_f (r : Rul) : E.rule_Right.f r.f0 r.f1 r.f2 r.f3 r.f4.f0 r.f4.f1 r.f5 = some (okRule r) := rfl
theorem allPE_l0 (l : List Rul) (hl : l.length ≤ 9223372036854775807) (d : Nat) : ∀ (j : Nat) (last : Int), j ≤ l.length → l.length - j = d →
    Ev (fun k => E.rule_All.l0 k l last l (l.length : Int) (j : Int)) (allP okRule last (l.drop j) && decide ((l.length : Int) ≤ 40)) := by
  induction d with
  | zero =>
    intro j last hj hd
    obtain rfl : j = l.length := by omega
    refine Ev.step (fun k => by rw [E.rule_All.l0]) ?_
    rw [List.drop_length]
    simp only [Int.lt_irrefl, if_false, allP, Bool.true_and]
    exact Ev.now _
  | succ d ih =>
    intro j last hj hd
    have hlt : j < l.length := by omega
    refine Ev.step (fun k => by rw [E.rule_All.l0]) ?_
    rw [List.drop_eq_getElem_cons hlt, allP]
    simp only [show ((j : Int) < (l.length : Int)) from by omega, show (0 : Int) ≤ (j : Int) from by omega, if_true, rd_rule l j hlt, rightP_f, Option.bind_some, wrap_up hlt hl]
    cases h : okRule l[j] with
    | false =>
      simp only [Bool.false_eq_true, if_false, Bool.false_and]
      exact Ev.now _
    | true =>
      simp only [if_true, Bool.true_and]
      by_cases c : l[j].f0 ≤ last
      · simp only [if_pos c, decide_eq_false (show ¬ last < l[j].f0 by omega), Bool.false_and]
        exact Ev.now _
      · simp only [if_neg c, decide_eq_true (show last < l[j].f0 by omega), Bool.true_and]
        exact ih (j + 1) l[j].f0 (by omega) (by omega)
theorem allPE_ev (l : List Rul) (hl : l.length ≤ 9223372036854775807) : Ev (fun k => E.rule_All.f k l) (allB l) := allPE_l0 l hl _ 0 0 (by omega) rfl
theorem good_allP {l : List Rul} (h : GoodL 40 okRule l) : allB l = true := by
  unfold allB
  rw [good_all okRule_pos h, Bool.true_and, decide_eq_true_iff]
  have := h.le
  omega
def bkT (l : List Rul) (k : Int) (r : Rul) : Int × Rul := if k = 0 then (1, r) else if k = 1 then (0, findR l r.f0) else (2, findR l r.f0)
def bkV (l : List Rul) (k : Int) (r : Rul) : Int × Int × Int × Int × Int × Int × Int × Int × Int :=
  if (applyL l k r).2 = 0 then ((bkT l k r).1, (bkT l k r).2.f0, (bkT l k r).2.f1, (bkT l k r).2.f2, (bkT l k r).2.f3, (bkT l k r).2.f4.f0, (bkT l k r).2.f4.f1, (bkT l k r).2.f5, 0) else (0, 0, 0, 0, 0, 0, 0, 0, (applyL l k r).2)
theorem applyA_f (l : List Rul) (hl : l.length * 48 ≤ 140737488355328) (k : Int) (r : Rul) : E.edit_Apply.f l k r.f0 r.f1 r.f2 r.f3 r.f4.f0 r.f4.f1 r.f5 = some (applyL l k r) := by
  unfold E.edit_Apply.f
  rw [if_pos hl]
theorem back_f (l : List Rul) (hl : l.length * 48 ≤ 140737488355328) (k : Int) (r : Rul) : E.edit_Back.f l k r.f0 r.f1 r.f2 r.f3 r.f4.f0 r.f4.f1 r.f5 = some (bkV l k r) := by
  unfold E.edit_Back.f
  rw [applyA_f l hl k r, Option.bind_some]
  unfold bkV bkT
  by_cases c : (applyL l k r).2 = 0
  · rw [if_pos c, if_pos c]
    unfold E.rule_Find.f
    rw [if_pos hl, Option.bind_some]
    by_cases k0 : k = 0
    · rw [if_pos k0, if_pos k0]
    · rw [if_neg k0, if_neg k0]
      by_cases k1 : k = 1
      · rw [if_pos k1, if_pos k1]
      · rw [if_neg k1, if_neg k1]
  · rw [if_neg c, if_neg c]
theorem bkV_err (l : List Rul) (k : Int) (r : Rul) : (bkV l k r).2.2.2.2.2.2.2.2 = (applyL l k r).2 := by
  unfold bkV
  split
  · rename_i h; exact h.symm
  · rfl
theorem back_all {l : List Rul} {k : Int} {r : Rul} (hg : GoodL 40 okRule l) (h : (applyK codesE 40 okRule l k r).2 = 0) :
    applyK codesE 40 okRule (applyK codesE 40 okRule l k r).1 (bkT l k r).1 (bkT l k r).2 = (l, 0) ∧ (bkT (applyK codesE 40 okRule l k r).1 (bkT l k r).1 (bkT l k r).2).1 = k ∧
    (bkT (applyK codesE 40 okRule l k r).1 (bkT l k r).1 (bkT l k r).2).2.f0 = r.f0 ∧ (k ≠ 1 → (bkT (applyK codesE 40 okRule l k r).1 (bkT l k r).1 (bkT l k r).2).2 = r) := by
  obtain ⟨u, hk, _, a4, a5, a⟩ := applyK_ok codesE_ok hg.up h
  rcases hk with rfl | rfl | rfl
  · obtain ⟨h1, h2⟩ := back_insert codesE_ok hg h
    have e : bkT l 0 r = (1, r) := rfl
    rw [e]
    have e2 : bkT (applyK codesE 40 okRule l 0 r).1 1 r = (0, r) := by
      unfold bkT
      rw [if_neg (by decide), if_pos rfl, findR_at u, h2]
      rfl
    rw [e2]
    exact ⟨h1, rfl, rfl, fun _ => rfl⟩
  · have hs := a5 (by decide)
    obtain ⟨was, hw⟩ := Option.isSome_iff_exists.1 hs
    have h1 := back_delete codesE_ok hg h hw
    have e : bkT l 1 r = (0, was) := by
      unfold bkT
      rw [if_neg (by decide), if_pos rfl, findR_at hg.up, hw]
      rfl
    rw [e]
    exact ⟨h1, rfl, (findK_id hw).1, fun q => absurd rfl q⟩
  · have hs := a5 (by decide)
    obtain ⟨was, hw⟩ := Option.isSome_iff_exists.1 hs
    obtain ⟨h1, h2⟩ := back_modify codesE_ok hg h hw
    have e : bkT l 2 r = (2, was) := by
      unfold bkT
      rw [if_neg (by decide), if_neg (by decide), findR_at hg.up, hw]
      rfl
    rw [e]
    have e2 : bkT (applyK codesE 40 okRule l 2 r).1 2 was = (2, r) := by
      unfold bkT
      rw [if_neg (by decide), if_neg (by decide), findR_at u, h2]
      rfl
    rw [e2]
    exact ⟨h1, rfl, rfl, fun _ => rfl⟩
theorem editBack_ev (l : List Rul) (k : Int) (r : Rul) (hi : ∀ r ∈ l, i64 r.f0) (hl : l.length * 48 ≤ 140737488355328) : Ev (fun n => E.waystonelaw14_EditBack.f n l k r.f0 r.f1 r.f2 r.f3 r.f4.f0 r.f4.f1 r.f5) true := by
  have out : ∀ b x (e : Int), Ev (fun n => E.waystonelaw14_EditBack.j0 n l b x e e true k r.f0 r.f1 r.f2 r.f3 r.f4.f0 r.f4.f1 r.f5 (bkV l k r).1 (bkV l k r).2.1 (bkV l k r).2.2.1 (bkV l k r).2.2.2.1 (bkV l k r).2.2.2.2.1 (bkV l k r).2.2.2.2.2.1 (bkV l k r).2.2.2.2.2.2.1 (bkV l k r).2.2.2.2.2.2.2.1) true := fun b x e => by
    refine Ev.step (fun n => by rw [E.waystonelaw14_EditBack.j0, if_pos rfl]) ?_
    refine Ev.bind alive_ev (Ev.congr (fun n => if_pos rfl) ?_)
    cases b
    · exact Ev.congr (fun n => if_neg (by decide)) (Ev.now _)
    · refine Ev.congr (fun n => if_pos rfl) ?_
      rw [show (e == e) = true from by simp]
      exact Ev.now _
  refine Ev.bind (fits_ev l hi) ?_
  refine Ev.congr (fun n => by rw [applyA_f l hl k r, Option.bind_some, back_f l hl k r, Option.bind_some, bkV_err]) ?_
  cases h1 : (decide (l.length ≤ 60) && allB l) with
  | false => exact Ev.congr (fun n => if_neg (by decide)) (out _ _ _)
  | true =>
    refine Ev.congr (fun n => if_pos rfl) ?_
    by_cases c : (applyL l k r).2 = 0
    · have hg := fits_good h1
      have hk := applyL_K hg.up k r
      have c2 : (applyK codesE 40 okRule l k r).2 = 0 := by rw [← hk]; exact c
      have hgx := apply_good codesE_ok hg c2
      obtain ⟨b1, b2, b3, b4⟩ := back_all hg c2
      have hlx := hgx.le
      have hll := hg.le
      rw [show ((applyL l k r).2 != 0) = false from by simpa using c]
      rw [hk]
      have hv : bkV l k r = ((bkT l k r).1, (bkT l k r).2.f0, (bkT l k r).2.f1, (bkT l k r).2.f2, (bkT l k r).2.f3, (bkT l k r).2.f4.f0, (bkT l k r).2.f4.f1, (bkT l k r).2.f5, 0) := by unfold bkV; rw [if_pos c]
      rw [hv]
      dsimp only
      generalize hx : (applyK codesE 40 okRule l k r).1 = x at *
      generalize hkb : (bkT l k r).1 = kb at *
      generalize hrb : (bkT l k r).2 = rb at *
      have hk2 := applyL_K hgx.up kb rb
      have c3 : (applyL x kb rb).2 = 0 := by rw [hk2, b1]
      have hv2 : bkV x kb rb = ((bkT x kb rb).1, (bkT x kb rb).2.f0, (bkT x kb rb).2.f1, (bkT x kb rb).2.f2, (bkT x kb rb).2.f3, (bkT x kb rb).2.f4.f0, (bkT x kb rb).2.f4.f1, (bkT x kb rb).2.f5, 0) := by unfold bkV; rw [if_pos c3]
      refine Ev.step (fun n => by rw [E.waystonelaw14_EditBack.j0, if_neg (by decide), applyA_f x (by omega) kb rb, Option.bind_some, back_f x (by omega) kb rb, Option.bind_some, hk2, b1, hv2]) ?_
      dsimp only
      refine Ev.bind (same_rules l (by omega)) (Ev.bind alive_ev (Ev.congr (fun n => if_pos rfl) ?_))
      have hall := allPE_ev x (by omega)
      rw [good_allP hgx] at hall
      refine Ev.bind hall (Ev.congr (fun n => if_pos rfl) (Ev.congr (fun n => if_pos c2) (Ev.congr (fun n => if_pos rfl) (Ev.congr (fun n => if_pos rfl) (Ev.congr (fun n => if_pos rfl) (Ev.congr (fun n => if_pos b2) (Ev.congr (fun n => if_pos b3) ?_)))))))
      by_cases k1 : k = 1
      · exact Ev.congr (fun n => if_pos k1) (Ev.now _)
      · refine Ev.congr (fun n => if_neg k1) ?_
        rw [b4 k1, b2]
        simp only [beq_self_eq_true, Bool.and_self]
        exact Ev.now _
    · rw [show ((applyL l k r).2 != 0) = true from by simpa using c]
      exact out _ _ _
theorem editBack_any (A0 : Option Addr) (c0 : Nat) (l : List Rul) (a : Edi) (w : World) (hr0 : Kd.C k35 w A0 l.length l) (hc0 : l.length ≤ c0) (hi0 : (∀ r ∈ l, i64 r.f0) ∧ l.length * 48 ≤ 140737488355328) (_ : i64 a.f1.f0) :
    Calls Try.prog 6 #[.slice A0 l.length c0, .agg #[.int .i64 a.f0, .int .i64 a.f1.f0, .int .i64 a.f1.f1, .int .i64 a.f1.f2, .int .i64 a.f1.f3, .int .u32 a.f1.f4.f0, .int .u32 a.f1.f4.f1, .int .i64 a.f1.f5]] w fun e w' => e = .returned (.bool true) ∧ Below w.heap.size w w' := by
  obtain ⟨k, hk⟩ := (editBack_ev l a.f0 a.f1 hi0.1 hi0.2).rounds
  exact E.waystonelaw14_EditBack.calls k A0 c0 l a.f0 a.f1.f0 a.f1.f1 a.f1.f2 a.f1.f3 a.f1.f4.f0 a.f1.f4.f1 a.f1.f5 true w hr0 hc0 hk
end Go.Proofs.Ytckjhdlpbfcaiaa.H
