/- What the document's answers for histories come to. -/
import Derived.Test.YtncdeappiooccaaOrdB
import Derived.Test.YtncdeappiooccaaTx1
import Derived.Test.YtncdeappiooccaaTx2
import Derived.Test.YtncdeappiooccaaTx3
namespace Go.Proofs.Ytncdeappiooccaa.H
open Go.RowKit Go.Proofs.Ytncdeappiooccaa.P Go.Proofs.YtncdeappiooccaaW.PrintWords Go.Proofs.YtncdeappiooccaaW.PrintLast Go.Proofs.YtncdeappiooccaaW.PrintMore
set_option linter.unusedVariables false
set_option linter.unusedSimpArgs false
theorem evCast {α : Type} {g : Nat → Option α} {r r' : α} (h : Ev g r) (e : r = r') : Ev g r' := e ▸ h
theorem w64' (j : Nat) (hj : j ≤ 1000) : wrap64 ((j : Int) + 1) = ((j + 1 : Nat) : Int) := by unfold wrap64; omega
def rf (x : S47) : S48 := ⟨x.f0, x.f1⟩
def refL (h : List S47) : List S48 := h.map rf
theorem refL_len (h : List S47) : (refL h).length = h.length := List.length_map ..
theorem rd48 (h : List S47) (j : Nat) (hj : j < h.length) : rd_T48 (refL h) (j : Int) = rf h[j] := by
  unfold rd_T48 refL
  rw [Int.toNat_natCast, List.getD_eq_getElem?_getD, List.getElem?_map, List.getElem?_eq_getElem hj]; rfl
theorem ref_l0 (h : List S47) (hl : h.length ≤ 1000) (d : Nat) : ∀ j : Nat, j ≤ h.length → h.length - j = d → Ev (fun k => T.waystonelaw21_ref.l0 k h (refL (h.take j)) (j : Int)) (refL h) := by
  induction d with
  | zero =>
    intro j hj hd
    obtain rfl : j = h.length := by omega
    refine Ev.step (fun k => by rw [T.waystonelaw21_ref.l0]) ?_
    simp only [Int.lt_irrefl, if_false, List.take_length]
    exact Ev.now _
  | succ d ih =>
    intro j hj hd
    have hlt : j < h.length := by omega
    have ih := ih (j + 1) (by omega) (by omega)
    refine Ev.step (fun k => by rw [T.waystonelaw21_ref.l0]) ?_
    have e1 : (refL (h.take j)).length < 8796093022208 := by rw [refL_len, List.length_take]; omega
    simp only [show ((j : Int) < (h.length : Int)) from by omega, show (0 : Int) ≤ (j : Int) from by omega, if_true, e1, w64' j (by omega), rd47 h j hlt]
    rw [List.take_succ_eq_append_getElem hlt] at ih
    unfold refL at ih ⊢
    rw [List.map_append] at ih
    exact ih
theorem ref_ev (h : List S47) (hl : h.length ≤ 1000) : Ev (fun k => T.waystonelaw21_ref.f k h) (refL h) := ref_l0 h hl h.length 0 (Nat.zero_le _) (by omega)
/-! ### place -/
theorem pos_first (h : List S47) (j : Nat) (x : S47) (hx : h[j]? = some x) (hn : ¬ x ∈ h.take j) : posE h x = (j : Int) + 1 := by
  have hj := (List.getElem?_eq_some_iff.1 hx).1
  have hm : x ∈ h.take (j + 1) := by
    rw [List.take_succ_eq_append_getElem hj, (List.getElem?_eq_some_iff.1 hx).2]; simp
  have h1 := pos_take h x (j + 1) hm
  obtain ⟨i, h2, h3, _⟩ := pos_get h x h1.1
  have h4 : ¬ i < j := fun hi => hn (List.mem_of_getElem? (i := i) (by rw [List.getElem?_take_of_lt hi]; exact h3))
  omega
theorem place_l0 (h : List S47) (hl : h.length ≤ 1000) (kd id : Int) (d : Nat) : ∀ j : Nat, j ≤ h.length → h.length - j = d → ¬ (⟨kd, id⟩ : S47) ∈ h.take j → Ev (fun k => T.waystoneref21_place.l0 k (refL h) kd id (j : Int)) (posE h ⟨kd, id⟩ - 1) := by
  induction d with
  | zero =>
    intro j hj hd hn
    obtain rfl : j = h.length := by omega
    rw [List.take_length] at hn
    refine Ev.step (fun k => by rw [T.waystoneref21_place.l0]) ?_
    simp only [refL_len, Int.lt_irrefl, if_false]
    refine evCast (Ev.now _) ?_
    rw [posE_none h _ hn]; rfl
  | succ d ih =>
    intro j hj hd hn
    have hlt : j < h.length := by omega
    have ih := ih (j + 1) (by omega) (by omega)
    refine Ev.step (fun k => by rw [T.waystoneref21_place.l0]) ?_
    simp only [refL_len, show ((j : Int) < (h.length : Int)) from by omega, show (0 : Int) ≤ (j : Int) from by omega, if_true, w64' j (by omega), rd48 h j hlt, rf]
    have hx : h[j]? = some h[j] := List.getElem?_eq_getElem hlt
    rw [List.take_succ_eq_append_getElem hlt, List.mem_append, List.mem_singleton] at ih
    generalize h[j] = x at *
    obtain ⟨x0, x1⟩ := x
    simp only
    by_cases c0 : x0 = kd
    · by_cases c1 : x1 = id
      · subst c0; subst c1
        simp only [if_true]
        refine evCast (Ev.now _) ?_
        rw [pos_first h j _ hx hn]; omega
      · simp only [c0, c1, if_true, if_false]
        exact ih (fun o => o.elim hn fun e => c1 (by cases e; rfl))
    · simp only [c0, if_false]
      exact ih (fun o => o.elim hn fun e => c0 (by cases e; rfl))
theorem place_ev (h : List S47) (hl : h.length ≤ 1000) (kd id : Int) : Ev (fun k => T.waystoneref21_place.f k (refL h) kd id) (posE h ⟨kd, id⟩ - 1) := place_l0 h hl kd id h.length 0 (Nat.zero_le _) (by omega) (by simp)
theorem pos_in (h : List S47) (j : Nat) (x : S47) : x ∈ h.take j ↔ 0 < posE h x ∧ posE h x ≤ j := by
  constructor
  · exact pos_take h x j
  · rintro ⟨h1, h2⟩
    obtain ⟨i, h3, h4, _⟩ := pos_get h x h1
    exact List.mem_of_getElem? (i := i) (by rw [List.getElem?_take_of_lt (by omega)]; exact h4)
/-! ### Right -/
theorem refRight_l0 (h : List S47) (hl : h.length ≤ 1000) (d : Nat) : ∀ j : Nat, j ≤ h.length → h.length - j = d → rightH (h.take j) = true → Ev (fun k => T.waystoneref21_Right.l0 k (refL h) (cnt1 (h.take j) : Int) (j : Int)) (rightH h) := by
  induction d with
  | zero =>
    intro j hj hd hr
    obtain rfl : j = h.length := by omega
    rw [List.take_length] at hr
    refine Ev.step (fun k => by rw [T.waystoneref21_Right.l0]) ?_
    simp only [refL_len, Int.lt_irrefl, if_false, hr]
    exact Ev.now _
  | succ d ih =>
    intro j hj hd hr
    have hlt : j < h.length := by omega
    have ih := ih (j + 1) (by omega) (by omega)
    have hst := rightH_step h j hlt
    have hno := not_right_at h j hlt
    have hcs := cnt1_step h j hlt
    have hcl := cnt1_le h j
    rw [hr, Bool.true_and] at hst
    rw [hst, hcs] at ih
    refine Ev.step (fun k => by rw [T.waystoneref21_Right.l0]) ?_
    simp only [refL_len, show ((j : Int) < (h.length : Int)) from by omega, show (0 : Int) ≤ (j : Int) from by omega, if_true, rd48 h j hlt, rf]
    have hx : h[j]? = some h[j] := List.getElem?_eq_getElem hlt
    generalize h[j] = x at *
    obtain ⟨x0, x1⟩ := x
    simp only at ih hcs ⊢
    refine Ev.bind (place_ev h hl x0 x1) ?_
    have hj1 : ∀ b : Bool, b = true → stepOk (h.take j) ⟨x0, x1⟩ = false → Ev (fun k => T.waystoneref21_Right.j1 k (refL h) (cnt1 (h.take j) : Int) (j : Int) x0 x1 b) (rightH h) := by
      intro b hb hs
      refine Ev.step (fun k => by rw [T.waystoneref21_Right.j1]) ?_
      simp only [hb, if_true]
      exact evCast (Ev.now _) (hno hs).symm
    by_cases c1 : x0 < 1
    · simp only [c1, if_true]
      refine hj1 true rfl ?_
      have e1 : x0 ≠ 1 := by omega
      have e2 : x0 ≠ 2 := by omega
      have e3 : x0 ≠ 3 := by omega
      simp [stepOk, e1, e2, e3]
    · by_cases c2 : x0 > 3
      · simp only [c1, c2, if_true, if_false]
        refine hj1 true rfl ?_
        have e1 : x0 ≠ 1 := by omega
        have e2 : x0 ≠ 2 := by omega
        have e3 : x0 ≠ 3 := by omega
        simp [stepOk, e1, e2, e3]
      · simp only [c1, c2, if_false]
        by_cases c3 : (⟨x0, x1⟩ : S47) ∈ h.take j
        · refine hj1 _ ?_ (by simp [stepOk, c3])
          have := pos_take h _ j c3
          rw [bne_iff_ne]
          omega
        · have hp := pos_first h j _ hx c3
          refine Ev.step (fun k => by rw [T.waystoneref21_Right.j1]) ?_
          have hb : ((posE h ⟨x0, x1⟩ - 1) != (j : Int)) = false := by rw [hp]; simp
          simp only [hb, Bool.false_eq_true, if_false]
          by_cases c4 : x0 = 1
          · subst c4
            have hw : wrap64 ((cnt1 (h.take j) : Int) + 1) = (cnt1 (h.take j) : Int) + 1 := by unfold wrap64; omega
            simp only [if_true, hw]
            by_cases c5 : x1 = (cnt1 (h.take j) : Int) + 1
            · have hs : stepOk (h.take j) ⟨1, x1⟩ = true := by simp [stepOk, c3, c5]; rw [← c5]; exact c3
              simp only [c5, if_true, w64' j (by omega)]
              have := ih hs
              simpa using this
            · simp only [c5, if_false]
              refine evCast (Ev.now _) (hno ?_).symm
              simp [stepOk, c3, c5]
          · simp only [c4, if_false]
            have hw : wrap64 (x0 - 1) = x0 - 1 := by unfold wrap64; omega
            have hk : x0 = 2 ∨ x0 = 3 := by omega
            have hs : stepOk (h.take j) ⟨x0, x1⟩ = decide ((⟨x0 - 1, x1⟩ : S47) ∈ h.take j) := by
              rcases hk with rfl | rfl <;> simp [stepOk, c3, wrap64]
            rw [hs] at ih hno
            rw [hw]
            refine Ev.bind (place_ev h hl (x0 - 1) x1) ?_
            have hin := pos_in h j ⟨x0 - 1, x1⟩
            have hin2 := pos_get h ⟨x0 - 1, x1⟩
            by_cases c6 : posE h ⟨x0 - 1, x1⟩ - 1 < 0
            · simp only [c6, if_true]
              refine evCast (Ev.now _) (hno ?_).symm
              rw [decide_eq_false_iff_not, hin]
              omega
            · by_cases c7 : posE h ⟨x0 - 1, x1⟩ - 1 > (j : Int)
              · simp only [c6, c7, if_true, if_false]
                refine evCast (Ev.now _) (hno ?_).symm
                rw [decide_eq_false_iff_not, hin]
                omega
              · simp only [c6, c7, if_false, w64' j (by omega)]
                have hm : (⟨x0 - 1, x1⟩ : S47) ∈ h.take j := by
                  rw [hin]
                  obtain ⟨i, h1, h2, _⟩ := hin2 (by omega)
                  have : i ≠ j := by
                    rintro rfl
                    rw [hx] at h2
                    injection h2 with h2
                    injection h2 with h2 _
                    omega
                  omega
                have := ih (by simpa using hm)
                rw [if_neg c4] at this
                simpa using this
theorem refRight_ev (h : List S47) (hl : h.length ≤ 1000) : Ev (fun k => T.waystoneref21_Right.f k (refL h)) (rightH h) := refRight_l0 h hl h.length 0 (Nat.zero_le _) (by omega) rfl
/-! ### Order, Pending, Ahead -/
theorem refOrder_l0 (h : List S47) (hl : h.length ≤ 1000) (d : Nat) : ∀ j : Nat, j ≤ h.length → h.length - j = d → Ev (fun k => T.waystoneref21_Order.l0 k (refL h) (ofL (h.take j) 2) (j : Int)) (ofL h 2, 0) := by
  induction d with
  | zero =>
    intro j hj hd
    obtain rfl : j = h.length := by omega
    refine Ev.step (fun k => by rw [T.waystoneref21_Order.l0]) ?_
    simp only [refL_len, Int.lt_irrefl, if_false, List.take_length]
    exact Ev.now _
  | succ d ih =>
    intro j hj hd
    have hlt : j < h.length := by omega
    have ih := ih (j + 1) (by omega) (by omega)
    refine Ev.step (fun k => by rw [T.waystoneref21_Order.l0]) ?_
    have e1 : (ofL (h.take j) 2).length < 17592186044416 := by have := ofL_le (h.take j) 2; rw [List.length_take] at this; omega
    simp only [refL_len, show ((j : Int) < (h.length : Int)) from by omega, show (0 : Int) ≤ (j : Int) from by omega, if_true, e1, w64' j (by omega), rd48 h j hlt, rf]
    rw [ofL_succ h 2 j hlt] at ih
    by_cases c : h[j].f0 = 2
    · simp only [c, if_true] at ih ⊢
      exact ih
    · simp only [c, if_false, List.append_nil] at ih ⊢
      exact ih
theorem refOrder_ev (h : List S47) (hl : h.length ≤ 1000) : Ev (fun k => T.waystoneref21_Order.f k (refL h)) (orderL h, orderE h) := by
  unfold T.waystoneref21_Order.f
  refine Ev.bind (refRight_ev h hl) ?_
  unfold orderL orderE
  cases rightH h with
  | true => simp only [if_true]; exact refOrder_l0 h hl h.length 0 (Nat.zero_le _) (by omega)
  | false => simp only [Bool.false_eq_true, if_false]; exact Ev.now _
theorem refPending_l0 (h : List S47) (hl : h.length ≤ 1000) (d : Nat) : ∀ j : Nat, j ≤ h.length → h.length - j = d → Ev (fun k => T.waystoneref21_Pending.l0 k (refL h) ((ofL (h.take j) 1).filter fun id => !decide (0 < posE h ⟨3, id⟩)) (j : Int)) ((ofL h 1).filter fun id => !decide (0 < posE h ⟨3, id⟩)) := by
  induction d with
  | zero =>
    intro j hj hd
    obtain rfl : j = h.length := by omega
    refine Ev.step (fun k => by rw [T.waystoneref21_Pending.l0]) ?_
    simp only [refL_len, Int.lt_irrefl, if_false, List.take_length]
    exact Ev.now _
  | succ d ih =>
    intro j hj hd
    have hlt : j < h.length := by omega
    have ih := ih (j + 1) (by omega) (by omega)
    refine Ev.step (fun k => by rw [T.waystoneref21_Pending.l0]) ?_
    have e1 : ((ofL (h.take j) 1).filter fun id => !decide (0 < posE h ⟨3, id⟩)).length < 17592186044416 := by
      have := ofL_le (h.take j) 1
      have h2 : ((ofL (h.take j) 1).filter fun id => !decide (0 < posE h ⟨3, id⟩)).length ≤ (ofL (h.take j) 1).length := List.length_filter_le _ _
      rw [List.length_take] at this
      omega
    simp only [refL_len, show ((j : Int) < (h.length : Int)) from by omega, show (0 : Int) ≤ (j : Int) from by omega, if_true, e1, w64' j (by omega), rd48 h j hlt, rf]
    rw [ofL_succ h 1 j hlt] at ih
    refine Ev.bind (place_ev h hl 3 h[j].f1) ?_
    by_cases c : h[j].f0 = 1
    · by_cases c2 : posE h ⟨3, h[j].f1⟩ - 1 < 0
      · have e : (decide (0 < posE h ⟨3, h[j].f1⟩)) = false := by rw [decide_eq_false_iff_not]; omega
        simp only [c, c2, if_true] at ih ⊢
        rw [List.filter_append, List.filter_cons, List.filter_nil, e] at ih
        simpa using ih
      · have e : (decide (0 < posE h ⟨3, h[j].f1⟩)) = true := by rw [decide_eq_true_iff]; omega
        simp only [c, c2, if_true, if_false] at ih ⊢
        rw [List.filter_append, List.filter_cons, List.filter_nil, e] at ih
        simpa using ih
    · simp only [c, if_false, List.append_nil] at ih ⊢
      exact ih
theorem refPending_ev (h : List S47) (hl : h.length ≤ 1000) : Ev (fun k => T.waystoneref21_Pending.f k (refL h)) (pendL h) := by
  unfold T.waystoneref21_Pending.f
  refine Ev.bind (refRight_ev h hl) ?_
  unfold pendL
  cases rightH h with
  | true => simp only [if_true]; exact refPending_l0 h hl h.length 0 (Nat.zero_le _) (by omega)
  | false => simp only [Bool.false_eq_true, if_false]; exact Ev.now _
theorem refAhead_ev (h : List S47) (hl : h.length ≤ 1000) (a b : Int) : Ev (fun k => T.waystoneref21_Ahead.f k (refL h) a b) (aheadH h a b) := by
  unfold T.waystoneref21_Ahead.f
  refine Ev.bind (refRight_ev h hl) ?_
  refine Ev.bind (place_ev h hl 3 a) ?_
  refine Ev.bind (place_ev h hl 1 b) ?_
  unfold aheadH
  cases rightH h with
  | false => simp only [Bool.false_eq_true, if_false, Bool.false_and]; exact Ev.now _
  | true =>
    simp only [if_true, Bool.true_and]
    by_cases c1 : 0 < posE h ⟨3, a⟩
    · by_cases c2 : posE h ⟨1, b⟩ - 1 ≥ 0
      · simp only [show posE h ⟨3, a⟩ - 1 ≥ 0 from by omega, c2, if_true]
        refine evCast (Ev.now _) ?_
        rw [decide_eq_true c1, Bool.true_and]
        rw [Bool.eq_iff_iff]
        simp only [decide_eq_true_eq]
        omega
      · simp only [show posE h ⟨3, a⟩ - 1 ≥ 0 from by omega, c2, if_true, if_false]
        refine evCast (Ev.now _) ?_
        rw [decide_eq_true c1, Bool.true_and]
        symm
        rw [decide_eq_false_iff_not]
        omega
    · simp only [show ¬ posE h ⟨3, a⟩ - 1 ≥ 0 from by omega, if_false]
      refine evCast (Ev.now _) ?_
      rw [decide_eq_false c1]; rfl
end Go.Proofs.Ytncdeappiooccaa.H
