/- WirM. -/
import Derived.Test.YtpaknjmcjblahaaEWirL
import Derived.Test.YtpaknjmcjblahaaEPx5
import Derived.Test.YtpaknjmcjblahaaEPx6
namespace Go.Proofs.Ytpaknjmcjblahaa.H
open Go.RowKit Go.Proofs.Ytpaknjmcjblahaa.P Go.Proofs.YtpaknjmcjblahaaW.PrintWords Go.Proofs.YtpaknjmcjblahaaW.PrintLast Go.Proofs.YtpaknjmcjblahaaW.PrintMore
set_option linter.unusedVariables false
set_option linter.unusedSimpArgs false
set_option maxRecDepth 20000
theorem all_ev (most : Int) (l : List Int) (hl : l.length ≤ 1000000) : Ev (fun k => waystoneref17_all.f k most l) (allIn most l) := all_l0 most l [] (by simpa using hl) rfl
theorem nums_f (y : Ru) (h : okRu y) : waystoneref17_Numbers.f y.f0 y.f1 y.f2 y.f3 y.f4.f0 y.f4.f1 y.f5 = some (numsR y) := by
  have e1 : wrap64 y.f4.f0 = y.f4.f0 := by have := h.1; unfold wrap64; omega
  have e2 : wrap64 y.f4.f1 = y.f4.f1 := by have := h.2; unfold wrap64; omega
  unfold waystoneref17_Numbers.f numsR
  rw [e1, e2]
theorem rdR_app' (A B : List Ru) (p : Ru) : rd_T29 (A ++ p :: B) (A.length : Int) = p := by
  unfold rd_T29
  rw [Int.toNat_natCast, List.getD_eq_getElem?_getD, List.getElem?_append_right (Nat.le_refl _), Nat.sub_self]; rfl
theorem formed_l0 (a b : Int) (c d : List Int) (e : Bool) (f g : Int) (p q s : Int) : ∀ (B A : List Ru), (A ++ B).length ≤ 1000000 → (∀ x ∈ B, okRu x) → Ev (fun k => waystoneref17_Formed.l0 k (A.length : Int) a b c (A ++ B) e f g d p q s) (!B.any outR)
  | [], A, hl, hB => by
    refine Ev.step (fun k => by rw [waystoneref17_Formed.l0]) ?_
    simp only [List.append_nil, Int.lt_irrefl, if_false]
    exact Ev.now _
  | y :: B, A, hl, hB => by
    have hl2 : A.length + (B.length + 1) ≤ 1000000 := by rw [List.length_append, List.length_cons] at hl; exact hl
    have h1 : ((A.length : Nat) : Int) < ((A ++ y :: B).length : Int) := by rw [List.length_append, List.length_cons]; omega
    have h0 : (0 : Int) ≤ (A.length : Int) := by omega
    have hw := wr1 A.length (by omega)
    refine Ev.step (fun k => by rw [waystoneref17_Formed.l0]) ?_
    simp only [h1, h0, if_true, rdR_app', hw, nums_f y (hB y (by simp)), Option.bind_some]
    refine Ev.bind (all_ev 4294967295 (numsR y) (by simp [numsR])) ?_
    have ih := formed_l0 a b c d e f g p q s B (A ++ [y]) (by rw [List.append_assoc]; exact hl) (fun x hx => hB x (List.mem_cons_of_mem _ hx))
    rw [show (A ++ [y]) ++ B = A ++ y :: B from by simp, show (A ++ [y]).length = A.length + 1 from by simp] at ih
    have ho : outR y = !allIn 4294967295 (numsR y) := rfl
    rw [List.any_cons, ho]
    cases allIn 4294967295 (numsR y) with
    | true =>
      simp only [if_true, Bool.not_true, Bool.false_or]
      exact ih
    | false =>
      simp only [Bool.false_eq_true, if_false]
      exact evCast (Ev.now _) (by simp)
theorem formed_ev (r : Rs) (h1 : r.ids.length ≤ 1000000) (h2 : r.rules.length ≤ 1000000) (h3 : r.dv.length ≤ 1000000) (hr : ∀ x ∈ r.rules, okRu x) :
    Ev (fun k => waystoneref17_Formed.f k r.e r.n r.ids r.rules r.h r.fr r.ad r.dv r.ft r.od r.op) (formedB r) := by
  have J0 : Ev (fun k => waystoneref17_Formed.j0 k false r.e r.n r.ids r.rules r.h r.fr r.ad r.dv r.ft r.od r.op) (!r.rules.any outR) := by
    refine Ev.step (fun k => by rw [waystoneref17_Formed.j0]) ?_
    simp only [Bool.false_eq_true, if_false]
    exact formed_l0 r.e r.n r.ids r.dv r.h r.fr r.ad r.ft r.od r.op r.rules [] (by simpa using h2) hr
  have J1 : Ev (fun k => waystoneref17_Formed.j0 k true r.e r.n r.ids r.rules r.h r.fr r.ad r.dv r.ft r.od r.op) false := by
    refine Ev.step (fun k => by rw [waystoneref17_Formed.j0]) ?_
    simp only [if_true]
    exact Ev.now _
  unfold waystoneref17_Formed.f
  refine Ev.bind (all_ev 65535 [r.e] (by simp)) ?_
  refine Ev.bind (all_ev 4294967295 [r.n] (by simp)) ?_
  refine Ev.bind (all_ev 4294967295 r.ids h1) ?_
  refine Ev.bind (all_ev 255 [r.fr, r.ft, r.od, r.op] (by simp)) ?_
  refine Ev.bind (all_ev 255 r.dv h3) ?_
  unfold formedB
  generalize allIn 65535 [r.e] = b1
  generalize allIn 4294967295 [r.n] = b2
  generalize allIn 4294967295 r.ids = b3
  generalize allIn 255 [r.fr, r.ft, r.od, r.op] = b4
  generalize allIn 255 r.dv = b5
  generalize r.rules.any outR = b6 at *
  cases b1 with
  | false => simp only [Bool.false_eq_true, if_false]; exact evCast J1 (by simp)
  | true =>
  cases b2 with
  | false => simp only [Bool.false_eq_true, if_false, if_true]; exact evCast J1 (by simp)
  | true =>
  cases b3 with
  | false => simp only [Bool.false_eq_true, if_false, if_true]; exact evCast J1 (by simp)
  | true =>
  cases b4 with
  | false => simp only [Bool.false_eq_true, if_false, if_true]; exact evCast J1 (by simp)
  | true =>
  cases b5 with
  | false => simp only [Bool.false_eq_true, if_false, if_true]; exact evCast J1 (by simp)
  | true =>
  simp only [if_true]
  by_cases c1 : (r.ids.length : Int) > 100
  · simp only [if_pos c1]
    exact evCast J1 (by rw [decide_eq_false (show ¬ (r.ids.length : Int) ≤ 100 by omega)]; simp)
  · simp only [if_neg c1]
    by_cases c2 : (r.rules.length : Int) > 100
    · simp only [if_pos c2]
      exact evCast J1 (by rw [decide_eq_false (show ¬ (r.rules.length : Int) ≤ 100 by omega)]; simp)
    · simp only [if_neg c2]
      by_cases c3 : (r.dv.length : Int) > 100
      · simp only [decide_eq_true c3]
        exact evCast J1 (by rw [decide_eq_false (show ¬ (r.dv.length : Int) ≤ 100 by omega)]; simp)
      · simp only [decide_eq_false c3]
        exact evCast J0 (by rw [decide_eq_true (show (r.ids.length : Int) ≤ 100 by omega), decide_eq_true (show (r.rules.length : Int) ≤ 100 by omega), decide_eq_true (show (r.dv.length : Int) ≤ 100 by omega)]; simp)
theorem putL_rules : ∀ l : List Ru, putL ((l.map numsR).flatten) = (l.map putRu).flatten
  | [] => rfl
  | y :: l => by rw [List.map_cons, List.flatten_cons, putL_append, putL_rules l, List.map_cons, List.flatten_cons]; rfl
theorem numsF_len : ∀ l : List Ru, ((l.map numsR).flatten).length = 7 * l.length
  | [] => rfl
  | y :: l => by rw [List.map_cons, List.flatten_cons, List.length_append, numsF_len l, List.length_cons]; simp [numsR]; omega
theorem numsF_ok : ∀ l : List Ru, (∀ x ∈ l, okW x) → ∀ x ∈ (l.map numsR).flatten, 0 ≤ x ∧ x < 9223372036854775808
  | [], _, x, hx => by simp at hx
  | y :: l, h, x, hx => by
    rw [List.map_cons, List.flatten_cons, List.mem_append] at hx
    rcases hx with hx | hx
    · exact numsR_ok (h y (by simp)) x hx
    · exact numsF_ok l (fun z hz => h z (List.mem_cons_of_mem _ hz)) x hx
theorem ans_l0 (r : Rs) (F : FormS r) (had : 0 ≤ r.ad ∧ r.ad ≤ 4294967295) : ∀ (B A : List Ru) (acc : List Int), A ++ B = r.rules → acc = [r.e, r.n, (r.ids.length : Int)] ++ r.ids ++ [(r.rules.length : Int)] ++ (A.map numsR).flatten →
    Ev (fun k => waystoneref17_Answer.l0 k acc (A.length : Int) r.e r.n r.ids (A ++ B) r.h r.fr r.ad r.dv r.ft r.od r.op) (ansL r, 0)
  | [], A, acc, hAB, hacc => by
    have l1 := F.l1; have l2 := F.l2; have l3 := F.l3
    have k1 := F.e; have k2 := F.n; have k3 := F.ids; have k4 := F.rules; have k5 := F.fr; have k6 := F.dv; have k7 := F.ft; have k8 := F.od; have k9 := F.op
    have hw : wideW = 4294967295 := rfl
    unfold inB at k1 k2 k3 k5 k6 k7 k8 k9
    rw [List.append_nil] at hAB
    subst hAB
    have hal : acc.length ≤ 804 := by rw [hacc]; simp only [List.length_append, List.length_cons, List.length_nil, numsF_len]; omega
    have eA : wrap64 r.ad = r.ad := by unfold wrap64; omega
    have hput : ∀ b : Int, b = b01 r.h → Ev (fun k => waystoneref17_put.f k (acc ++ [b, r.fr, r.ad, (r.dv.length : Int)] ++ r.dv ++ [r.ft, r.od, r.op])) (ansL r) := by
      intro b hb
      have hb1 : 0 ≤ b01 r.h ∧ b01 r.h ≤ 1 := by cases r.h <;> decide
      refine evCast (refput_ev _ (by simp only [List.length_append, List.length_cons, List.length_nil]; omega) ?_) ?_
      · intro x hx
        rw [hacc] at hx
        simp only [List.mem_append, List.mem_cons, List.not_mem_nil, or_false] at hx
        rcases hx with ((((((rfl | rfl | rfl) | hx) | rfl) | hx) | rfl | rfl | rfl | rfl) | hx) | rfl | rfl | rfl
        · omega
        · omega
        · omega
        · have := k3 x hx; omega
        · omega
        · exact numsF_ok _ k4 x hx
        · omega
        · omega
        · omega
        · omega
        · have := k6 x hx; omega
        · omega
        · omega
        · omega
      · rw [hacc, hb]
        simp only [putL_append, putL_rules]
        unfold ansL
        simp [putL]
    refine Ev.step (fun k => by rw [waystoneref17_Answer.l0]) ?_
    simp only [List.append_nil, Int.lt_irrefl, if_false, Option.bind_some, eA]
    have c1 : acc.length + 4 < 17592186044416 := by omega
    have c2 : acc.length + 4 + r.dv.length < 17592186044416 := by omega
    have c3 : acc.length + 4 + r.dv.length + 3 < 17592186044416 := by omega
    cases hh : r.h with
    | true =>
      have hp := hput 1 (by rw [hh]; rfl)
      simp only [if_true, List.length_append, List.length_cons, List.length_nil, Nat.zero_add, Nat.reduceAdd, if_pos c1, if_pos c2, if_pos c3]
      exact Ev.bind hp (Ev.now _)
    | false =>
      have hp := hput 0 (by rw [hh]; rfl)
      simp only [Bool.false_eq_true, if_false, List.length_append, List.length_cons, List.length_nil, Nat.zero_add, Nat.reduceAdd, if_pos c1, if_pos c2, if_pos c3]
      exact Ev.bind hp (Ev.now _)
  | y :: B, A, acc, hAB, hacc => by
    have l1 := F.l1; have l2 := F.l2; have l3 := F.l3
    have hy : y ∈ r.rules := by rw [← hAB]; simp
    have hl2 : A.length + (B.length + 1) ≤ 100 := by rw [← hAB, List.length_append, List.length_cons] at l2; exact l2
    have hal : acc.length ≤ 804 := by rw [hacc]; simp only [List.length_append, List.length_cons, List.length_nil, numsF_len]; omega
    have h1 : ((A.length : Nat) : Int) < ((A ++ y :: B).length : Int) := by rw [List.length_append, List.length_cons]; omega
    have h0 : (0 : Int) ≤ (A.length : Int) := by omega
    have hw := wr1 A.length (by omega)
    refine Ev.step (fun k => by rw [waystoneref17_Answer.l0]) ?_
    simp only [h1, h0, if_true, rdR_app', hw, nums_f y (okRu_of (F.rules y hy)), Option.bind_some]
    have c1 : acc.length + (numsR y).length < 17592186044416 := by have : (numsR y).length = 7 := rfl; omega
    simp only [if_pos c1]
    have ih := ans_l0 r F had B (A ++ [y]) (acc ++ numsR y) (by rw [List.append_assoc]; exact hAB) (by rw [hacc]; simp [List.append_assoc])
    rw [show (A ++ [y]) ++ B = A ++ y :: B from by simp, show (A ++ [y]).length = A.length + 1 from by simp] at ih
    exact ih
theorem refans_ev (r : Rs) (h1 : r.ids.length ≤ 1000000) (h2 : r.rules.length ≤ 1000000) (h3 : r.dv.length ≤ 1000000) (hr : ∀ x ∈ r.rules, okRu x) (had : 0 ≤ r.ad ∧ r.ad ≤ 4294967295) :
    Ev (fun k => waystoneref17_Answer.f k r.e r.n r.ids r.rules r.h r.fr r.ad r.dv r.ft r.od r.op) (ansOut r) := by
  unfold waystoneref17_Answer.f
  refine Ev.bind (formed_ev r h1 h2 h3 hr) ?_
  unfold ansOut
  cases hq : formedB r with
  | false =>
    simp only [Bool.false_eq_true, if_false]
    exact Ev.now _
  | true =>
    have F := (formS_iff r).1 hq
    have l1 := F.l1; have l2 := F.l2
    simp only [if_true, Option.bind_some]
    have c1 : ([r.e, r.n, (r.ids.length : Int)] : List Int).length + r.ids.length < 17592186044416 := by simp only [List.length_cons, List.length_nil]; omega
    have c2 : ([r.e, r.n, (r.ids.length : Int)] ++ r.ids : List Int).length < 17592186044416 := by simp only [List.length_append, List.length_cons, List.length_nil]; omega
    simp only [if_pos c1, if_pos c2]
    exact ans_l0 r F had r.rules [] _ rfl (by simp)
end Go.Proofs.Ytpaknjmcjblahaa.H
