/- FatX3, FatX4, FatX5. -/
import Derived.Test.YtkjighagiecbaaaDFatX2
import Derived.Test.YtkjighagiecbaaaDEdtW
import Derived.Test.YtkjighagiecbaaaDQx1
/-! ### FatX3 -/
namespace Go.Proofs.Ytkjighagiecbaaa.H
open Go.RowKit Go.Proofs.Ytkjighagiecbaaa.P Go.Proofs.YtkjighagiecbaaaW.PrintWords Go.Proofs.YtkjighagiecbaaaW.PrintLast Go.Proofs.YtkjighagiecbaaaW.PrintMore
set_option linter.unusedVariables false
set_option linter.unusedSimpArgs false
theorem rightQ_f (r : Rul) : Q.rule_Right.f r.f0 r.f1 r.f2 r.f3 r.f4.f0 r.f4.f1 r.f5 = some (okRule r) := rfl
theorem rightR_f (r : Rul) (h : i64 r.f0) : R.waystoneref07_Right.f r.f0 r.f1 r.f2 r.f3 r.f4.f0 r.f4.f1 r.f5 = some (okRule r) := by
  unfold R.waystoneref07_Right.f
  rw [if_pos (show _ ∧ _ from h)]
theorem rd_rule (l : List Rul) (j : Nat) (h : j < l.length) : rd_T62 l (j : Int) = l[j] := by unfold rd_T62; rw [Int.toNat_natCast, List.getD_eq_getElem?_getD, List.getElem?_eq_getElem h]; rfl
def allB (l : List Rul) : Bool := allP okRule 0 l && decide ((l.length : Int) ≤ 40)
theorem allQ_l0 (l : List Rul) (hl : l.length ≤ 9223372036854775807) (d : Nat) : ∀ (j : Nat) (last : Int), j ≤ l.length → l.length - j = d →
    Ev (fun k => Q.rule_All.l0 k l last l (l.length : Int) (j : Int)) (allP okRule last (l.drop j) && decide ((l.length : Int) ≤ 40)) := by
  induction d with
  | zero =>
    intro j last hj hd
    obtain rfl : j = l.length := by omega
    refine Ev.step (fun k => by rw [Q.rule_All.l0]) ?_
    rw [List.drop_length]
    simp only [Int.lt_irrefl, if_false, allP, Bool.true_and]
    exact Ev.now _
  | succ d ih =>
    intro j last hj hd
    have hlt : j < l.length := by omega
    refine Ev.step (fun k => by rw [Q.rule_All.l0]) ?_
    rw [List.drop_eq_getElem_cons hlt, allP]
    simp only [show ((j : Int) < (l.length : Int)) from by omega, show (0 : Int) ≤ (j : Int) from by omega, if_true, rd_rule l j hlt, rightQ_f, Option.bind_some, wrap_up hlt hl]
    cases h : okRule l[j] with
    | false =>
      simp only [Bool.false_eq_true, if_false, Bool.false_and]
      exact Ev.now _
    | true =>
      simp only [if_true, Bool.true_and]
      by_cases c : l[j].f0 ≤ last
      · simp only [if_pos c, decide_eq_false (show ¬ last < l[j].f0 by omega), Bool.false_and]
        exact Ev.now _
      · simp only [if_neg c, decide_eq_true (show last < l[j].f0 by omega), Bool.true_and]
        exact ih (j + 1) l[j].f0 (by omega) (by omega)
theorem allQ_ev (l : List Rul) (hl : l.length ≤ 9223372036854775807) : Ev (fun k => Q.rule_All.f k l) (allB l) := allQ_l0 l hl _ 0 0 (by omega) rfl
def ahd (l : List Rul) : Nat → Option Int
  | 0 => none
  | j + 1 => (l[j]?).map (·.f0)
theorem ahd_succ (l : List Rul) (j : Nat) (h : j < l.length) : ahd l (j + 1) = some l[j].f0 := by
  show (l[j]?).map _ = _
  rw [List.getElem?_eq_getElem h]
  rfl
theorem allR_l0 (l : List Rul) (hl : l.length ≤ 9223372036854775807) (hi : ∀ r ∈ l, i64 r.f0) (d : Nat) : ∀ j : Nat, j ≤ l.length → l.length - j = d →
    Ev (fun k => R.waystoneref07_All.l0 k l (j : Int)) (allD okRule (ahd l j) (l.drop j) && decide ((l.length : Int) ≤ 40)) := by
  induction d with
  | zero =>
    intro j hj hd
    obtain rfl : j = l.length := by omega
    refine Ev.step (fun k => by rw [R.waystoneref07_All.l0]) ?_
    rw [List.drop_length]
    simp only [Int.lt_irrefl, if_false, allD, Bool.true_and]
    exact Ev.now _
  | succ d ih =>
    intro j hj hd
    have hlt : j < l.length := by omega
    have ih := ih (j + 1) (by omega) (by omega)
    have e1 := ahd_succ l j hlt
    rw [e1] at ih
    refine Ev.step (fun k => by rw [R.waystoneref07_All.l0]) ?_
    rw [List.drop_eq_getElem_cons hlt]
    simp only [show ((j : Int) < (l.length : Int)) from by omega, show (0 : Int) ≤ (j : Int) from by omega, if_true, rd_rule l j hlt, rightR_f _ (hi _ (List.getElem_mem hlt)), Option.bind_some, wrap_up hlt hl]
    match j, hlt, ih with
    | 0, hlt, ih =>
      unfold ahd
      rw [allD]
      cases h : okRule l[0] with
      | false =>
        simp only [Bool.false_eq_true, if_false, Bool.false_and]
        exact Ev.now _
      | true =>
        simp only [if_true, Bool.true_and]
        exact ih
    | j + 1, hlt, ih =>
      have e2 := ahd_succ l j (by omega)
      rw [e2, allD]
      have ew : wrap64 (((j + 1 : Nat) : Int) - 1) = (j : Int) := by unfold wrap64; omega
      cases h : okRule l[j + 1] with
      | false =>
        simp only [Bool.false_eq_true, if_false, Bool.false_and]
        exact Ev.now _
      | true =>
        simp only [if_true, Bool.true_and, show ((j + 1 : Nat) : Int) > 0 from by omega, ew, show (0 : Int) ≤ (j : Int) from by omega, show ((j : Int) < (l.length : Int)) from by omega, rd_rule l j (by omega)]
        by_cases c : l[j].f0 ≥ l[j + 1].f0
        · simp only [if_pos c, decide_eq_false (show ¬ l[j].f0 < l[j + 1].f0 by omega), Bool.false_and]
          exact Ev.now _
        · simp only [if_neg c, decide_eq_true (show l[j].f0 < l[j + 1].f0 by omega), Bool.true_and]
          exact ih
theorem okRule_pos (r : Rul) (h : okRule r = true) : 0 < r.f0 := by
  unfold okRule inB at h
  simp only [Bool.and_eq_true, decide_eq_true_iff] at h
  omega
theorem allR_ev (l : List Rul) (hl : l.length ≤ 9223372036854775807) (hi : ∀ r ∈ l, i64 r.f0) : Ev (fun k => R.waystoneref07_All.f k l) (allB l) := by
  have h := allR_l0 l hl hi _ 0 (by omega) rfl
  rw [List.drop_zero] at h
  unfold allB
  rw [all_same okRule okRule_pos]
  exact h
end Go.Proofs.Ytkjighagiecbaaa.H
/-! ### FatX4 -/
namespace Go.Proofs.Ytkjighagiecbaaa.H
open Go.RowKit Go.Proofs.Ytkjighagiecbaaa.P Go.Proofs.YtkjighagiecbaaaW.PrintWords Go.Proofs.YtkjighagiecbaaaW.PrintLast Go.Proofs.YtkjighagiecbaaaW.PrintMore
set_option linter.unusedVariables false
set_option linter.unusedSimpArgs false
def flatR (o : Option Rul) : Int × Int × Int × Int × Int × Int × Int × Bool :=
  ((o.getD zR).f0, (o.getD zR).f1, (o.getD zR).f2, (o.getD zR).f3, (o.getD zR).f4.f0, (o.getD zR).f4.f1, (o.getD zR).f5, o.isSome)
def tabD (acl : Bool) (d a : Int) (r : Rul) : Bool := takesS d a r && (isAcl r == acl)
theorem tabD_match (d a : Int) : tabD false d a = matchD d a := by funext r; unfold tabD matchD; cases isAcl r <;> rfl
theorem tabD_deny (d a : Int) : tabD true d a = denyD d a := by funext r; unfold tabD denyD; cases isAcl r <;> rfl
theorem firstR_j2 (l : List Rul) (d a : Int) (acl : Bool) (j : Int) (o : Option Rul) (r : Rul) (R' : Int × Int × Int × Int × Int × Int × Int × Bool)
    (skip : Bool) (hs : skip = !tabD acl d a r)
    (h : Ev (fun k => R.waystoneref07_first.l0 k l d a acl (bestR (tabD acl d a) o r).isSome (wrap64 (j + 1)) ((bestR (tabD acl d a) o r).getD zR).f0 ((bestR (tabD acl d a) o r).getD zR).f1 ((bestR (tabD acl d a) o r).getD zR).f2 ((bestR (tabD acl d a) o r).getD zR).f3 ((bestR (tabD acl d a) o r).getD zR).f4.f0 ((bestR (tabD acl d a) o r).getD zR).f4.f1 ((bestR (tabD acl d a) o r).getD zR).f5) R') :
    Ev (fun k => R.waystoneref07_first.j2 k l d a acl o.isSome j skip (o.getD zR).f0 (o.getD zR).f1 (o.getD zR).f2 (o.getD zR).f3 (o.getD zR).f4.f0 (o.getD zR).f4.f1 (o.getD zR).f5 r.f0 r.f1 r.f2 r.f3 r.f4.f0 r.f4.f1 r.f5) R' := by
  refine Ev.step (fun k => by rw [R.waystoneref07_first.j2]) ?_
  unfold bestR at h
  subst hs
  cases hp : tabD acl d a r with
  | false =>
    simp only [hp, Bool.not_false, if_true, Bool.false_eq_true, if_false] at h ⊢
    exact h
  | true =>
    simp only [hp, Bool.not_true, if_true, Bool.false_eq_true, if_false] at h ⊢
    cases o with
    | none =>
      simp only [Option.isSome_none, Bool.false_eq_true, if_false, Option.isSome_some, Option.getD_some] at h ⊢
      exact h
    | some m =>
      simp only [Option.isSome_some, if_true, Option.getD_some] at h ⊢
      by_cases c1 : m.f2 < r.f2
      · have hA : aheadR r m = true := by unfold aheadR; simp [c1]
        have c1' : r.f2 > m.f2 := c1
        simp only [hA, if_true, Option.isSome_some, Option.getD_some] at h
        simp only [if_pos c1']
        exact h
      · have c1' : ¬ r.f2 > m.f2 := c1
        by_cases c2 : r.f2 = m.f2
        · by_cases c3 : r.f0 < m.f0
          · have hA : aheadR r m = true := by unfold aheadR; simp [c2, c3]
            simp only [hA, if_true, Option.isSome_some, Option.getD_some] at h
            simp only [if_neg c1', if_pos c2, if_pos c3]
            exact h
          · have hA : aheadR r m = false := by unfold aheadR; simp [c2, c3]
            simp only [hA, Bool.false_eq_true, if_false, Option.isSome_some, Option.getD_some] at h
            simp only [if_neg c1', if_pos c2, if_neg c3]
            exact h
        · have hA : aheadR r m = false := by unfold aheadR; simp [c1]; exact fun e => absurd e.symm c2
          simp only [hA, Bool.false_eq_true, if_false, Option.isSome_some, Option.getD_some] at h
          simp only [if_neg c1', if_neg c2]
          exact h
theorem firstR_j1 (l : List Rul) (d a : Int) (acl : Bool) (j : Int) (o : Option Rul) (r : Rul) (R' : Int × Int × Int × Int × Int × Int × Int × Bool)
    (h : Ev (fun k => R.waystoneref07_first.l0 k l d a acl (bestR (tabD acl d a) o r).isSome (wrap64 (j + 1)) ((bestR (tabD acl d a) o r).getD zR).f0 ((bestR (tabD acl d a) o r).getD zR).f1 ((bestR (tabD acl d a) o r).getD zR).f2 ((bestR (tabD acl d a) o r).getD zR).f3 ((bestR (tabD acl d a) o r).getD zR).f4.f0 ((bestR (tabD acl d a) o r).getD zR).f4.f1 ((bestR (tabD acl d a) o r).getD zR).f5) R') :
    Ev (fun k => R.waystoneref07_first.j1 k l d a acl o.isSome j (isAcl r) (o.getD zR).f0 (o.getD zR).f1 (o.getD zR).f2 (o.getD zR).f3 (o.getD zR).f4.f0 (o.getD zR).f4.f1 (o.getD zR).f5 r.f0 r.f1 r.f2 r.f3 r.f4.f0 r.f4.f1 r.f5) R' := by
  refine Ev.step (fun k => by rw [R.waystoneref07_first.j1]) ?_
  have hj := fun skip hs => firstR_j2 l d a acl j o r R' skip hs h
  unfold tabD takesS at hj
  by_cases c1 : r.f1 = d
  · simp only [if_pos c1]
    by_cases c2 : a < r.f4.f0
    · simp only [if_pos c2]
      exact hj true (by simp [show ¬ r.f4.f0 ≤ a by omega])
    · simp only [if_neg c2]
      by_cases c3 : a > r.f4.f1
      · simp only [if_pos c3]
        exact hj true (by simp [show ¬ a ≤ r.f4.f1 by omega])
      · simp only [if_neg c3]
        refine hj _ ?_
        rw [c1, decide_eq_true (show r.f4.f0 ≤ a by omega), decide_eq_true (show a ≤ r.f4.f1 by omega)]
        cases isAcl r <;> cases acl <;> simp
  · simp only [if_neg c1]
    exact hj true (by simp [c1])
theorem firstR_l0 (l : List Rul) (d a : Int) (acl : Bool) (hl : l.length ≤ 9223372036854775807) (n : Nat) : ∀ (j : Nat) (o : Option Rul), j ≤ l.length → l.length - j = n →
    Ev (fun k => R.waystoneref07_first.l0 k l d a acl o.isSome (j : Int) (o.getD zR).f0 (o.getD zR).f1 (o.getD zR).f2 (o.getD zR).f3 (o.getD zR).f4.f0 (o.getD zR).f4.f1 (o.getD zR).f5) (flatR ((l.drop j).foldl (bestR (tabD acl d a)) o)) := by
  induction n with
  | zero =>
    intro j o hj hd
    obtain rfl : j = l.length := by omega
    refine Ev.step (fun k => by rw [R.waystoneref07_first.l0]) ?_
    rw [List.drop_length]
    simp only [Int.lt_irrefl, if_false, List.foldl_nil]
    exact Ev.now _
  | succ n ih =>
    intro j o hj hd
    have hlt : j < l.length := by omega
    have ih := ih (j + 1) (bestR (tabD acl d a) o l[j]) (by omega) (by omega)
    rw [← wrap_up hlt hl] at ih
    have h1 := firstR_j1 l d a acl (j : Int) o l[j] _ ih
    refine Ev.step (fun k => by rw [R.waystoneref07_first.l0]) ?_
    rw [List.drop_eq_getElem_cons hlt, List.foldl_cons]
    simp only [show ((j : Int) < (l.length : Int)) from by omega, show (0 : Int) ≤ (j : Int) from by omega, if_true, rd_rule l j hlt]
    unfold isAcl at h1
    by_cases c : l[j].f3 = 2
    · simp only [if_pos c]
      rw [show (l[j].f3 == 2 || l[j].f3 == 3) = true by rw [c]; rfl] at h1
      exact h1
    · simp only [if_neg c]
      rw [show (l[j].f3 == 2 || l[j].f3 == 3) = (l[j].f3 == 3) by rw [show (l[j].f3 == 2) = false by rw [beq_eq_false_iff_ne]; exact c]; rfl] at h1
      exact h1
theorem firstR_ev (l : List Rul) (d a : Int) (acl : Bool) (hl : l.length ≤ 9223372036854775807) : Ev (fun k => R.waystoneref07_first.f k l d a acl) (flatR (firstS (tabD acl d a) l)) := by
  rw [← best_first]
  exact firstR_l0 l d a acl hl _ 0 none (by omega) rfl
theorem deniesR_ev (l : List Rul) (d a : Int) (hl : l.length ≤ 9223372036854775807) : Ev (fun k => R.waystoneref07_Denies.f k l d a) (deniedS denyD l a d) := by
  unfold R.waystoneref07_Denies.f deniedS
  have h := firstR_ev l d a true hl
  rw [tabD_deny] at h
  refine Ev.bind h ?_
  cases firstS (denyD d a) l with
  | none => exact Ev.now _
  | some r =>
    unfold flatR
    simp only [Option.isSome_some, if_true, Option.getD_some]
    exact Ev.now _
theorem matchR_ev (l : List Rul) (d a : Int) (hl : l.length ≤ 9223372036854775807) : Ev (fun k => R.waystoneref07_Match.f k l d a) (flatR (firstS (matchD d a) l)) := by
  unfold R.waystoneref07_Match.f
  have h := firstR_ev l d a false hl
  rw [tabD_match] at h
  exact Ev.bind h (Ev.now _)
def stepD (l1 : List S66) (l2 : List Rul) (a d : Int) : Int × (Int × Int) := stepS matchD denyD l2 (nxS l1) a d
theorem stepR_any {A0 : Option Addr} {c0 : Nat} {l0 : List Int} {A1 : Option Addr} {c1 : Nat} {l1 : List S66} {A2 : Option Addr} {c2 : Nat} {l2 : List Rul} (d a : Int) (w : World) (h : NetAt A0 c0 l0 A1 c1 l1 A2 c2 l2 w) (hR : RightT l0 l1) :
    Calls Try.prog 18 #[netV A0 c0 l0 A1 c1 l1 A2 c2 l2, .int .i64 d, .int .u32 a] w fun e w' => e = .returned (.tuple #[.int .i64 (stepD l1 l2 a d).1, .agg #[.int .i64 (stepD l1 l2 a d).2.1, .int .i64 (stepD l1 l2 a d).2.2]]) ∧ Below w.heap.size w w' :=
  stepD_walk (mt := matchD) (dn := denyD) d a w h
    (fun W hW => by
      obtain ⟨k, hk⟩ := (deniesR_ev l2 d a (Kd.C_max hW.r2)).rounds
      exact R.waystoneref07_Denies.calls k A2 c2 l2 d a _ W hW.r2 hW.c2 hk)
    (fun W hW => by
      obtain ⟨k, hk⟩ := (matchR_ev l2 d a (Kd.C_max hW.r2)).rounds
      exact R.waystoneref07_Match.calls k A2 c2 l2 d a _ _ _ _ _ _ _ _ W hW.r2 hW.c2 hk)
    (fun W x y hW => by
      obtain ⟨k, hk⟩ := (refNext_ev l0 l1 hR x y).rounds
      exact (R.waystoneref08_Next.calls k A0 c0 l0 A1 c1 l1 x y _ _ _ W hW.r0 hW.c0 hW.r1 hW.c1 hk).mono fun e w' hq => ⟨_, _, hq.1, hq.2⟩)
theorem nextR_any {A0 : Option Addr} {c0 : Nat} {l0 : List Int} {A1 : Option Addr} {c1 : Nat} {l1 : List S66} {A2 : Option Addr} {c2 : Nat} {l2 : List Rul} (p : Int × Int) (w : World) (h : NetAt A0 c0 l0 A1 c1 l1 A2 c2 l2 w) (hR : RightT l0 l1) :
    Calls Try.prog 11 #[.agg #[.slice A0 l0.length c0, .slice A1 l1.length c1], .agg #[.int .i64 p.1, .int .i64 p.2]] w fun e w' => e = .returned (.tuple #[.agg #[.int .i64 (nextQ l1 ⟨p.1, p.2⟩).f0, .int .i64 (nextQ l1 ⟨p.1, p.2⟩).f1], .bool (nextB l1 ⟨p.1, p.2⟩)]) ∧ Below w.heap.size w w' := by
  obtain ⟨k, hk⟩ := (refNext_ev l0 l1 hR p.1 p.2).rounds
  exact R.waystoneref08_Next.calls k A0 c0 l0 A1 c1 l1 p.1 p.2 _ _ _ w h.r0 h.c0 h.r1 h.c1 hk
end Go.Proofs.Ytkjighagiecbaaa.H
/-! ### FatX5 -/
namespace Go.Proofs.Ytkjighagiecbaaa.H
open Go.RowKit Go.Proofs.Ytkjighagiecbaaa.P Go.Proofs.YtkjighagiecbaaaW.PrintWords Go.Proofs.YtkjighagiecbaaaW.PrintLast Go.Proofs.YtkjighagiecbaaaW.PrintMore
set_option linter.unusedVariables false
set_option linter.unusedSimpArgs false
set_option maxRecDepth 20000
theorem hasR_l0 (l : List Int) (x : Int) (hl : l.length ≤ 9223372036854775807) (d : Nat) : ∀ j : Nat, j ≤ l.length → l.length - j = d → Ev (fun k => R.waystoneref09_Has.l0 k l x (j : Int)) (decide (x ∈ l.drop j)) := by
  induction d with
  | zero =>
    intro j hj hd
    obtain rfl : j = l.length := by omega
    refine Ev.step (fun k => by rw [R.waystoneref09_Has.l0]) ?_
    rw [List.drop_length]
    simp only [Int.lt_irrefl, if_false, List.not_mem_nil, decide_false]
    exact Ev.now _
  | succ d ih =>
    intro j hj hd
    have hlt : j < l.length := by omega
    have ih := ih (j + 1) (by omega) (by omega)
    have e : rd l (j : Int) = l[j] := by unfold rd; rw [Int.toNat_natCast, List.getD_eq_getElem?_getD, List.getElem?_eq_getElem hlt]; rfl
    refine Ev.step (fun k => by rw [R.waystoneref09_Has.l0]) ?_
    rw [List.drop_eq_getElem_cons hlt]
    simp only [show ((j : Int) < (l.length : Int)) from by omega, show (0 : Int) ≤ (j : Int) from by omega, if_true, e, wrap_up hlt hl]
    by_cases c : l[j] = x
    · simp only [if_pos c]
      rw [decide_eq_true (by rw [List.mem_cons]; exact .inl c.symm)]
      exact Ev.now _
    · simp only [if_neg c]
      refine evCast ih ?_
      rw [Bool.eq_iff_iff, decide_eq_true_iff, decide_eq_true_iff, List.mem_cons]
      exact ⟨.inr, fun q => q.elim (fun q => absurd q.symm c) id⟩
theorem hasR_any (A : Option Addr) (c : Nat) (l : List Int) (x : Int) (w : World) (hr : Kd.C (Kd.int .i64) w A l.length l) (hc : l.length ≤ c) :
    Calls Try.prog 12 #[.slice A l.length c, .int .i64 x] w fun e w' => e = .returned (.bool (decide (x ∈ l))) ∧ Below w.heap.size w w' := by
  have h := hasR_l0 l x (Kd.C_max hr) _ 0 (by omega) rfl
  rw [List.drop_zero] at h
  obtain ⟨k, hk⟩ := Ev.rounds (g := fun k => R.waystoneref09_Has.f k l x) h
  exact (R.waystoneref09_Has.calls k A c l x (decide (x ∈ l)) w hr hc hk).mono (fun e w' h => ⟨h.1, by obtain ⟨nd, rfl⟩ := h.2; exact pw_below_drewN (Below.refl _ _) nd⟩)
structure RJ (H : Nat) (A0 : Option Addr) (c0 : Nat) (l0 : List Int) (A1 : Option Addr) (c1 : Nat) (l1 : List S66) (A2 : Option Addr) (c2 : Nat) (l2 : List Rul) (w : World) (pre : List Int) (W : World) : Prop where
  t_ : ∃ v, W.heap[H + 2]? = some (.cells #[v, .int .i64 0, .int .i64 0, .int .i64 0] 35 (0, 0)) ∧ W.ownsRow (H + 3) 3 1 v pre.length (pre.map (Value.int .i64))
  r_ : W.heap[H + 1]? = some (.cells #[.slice none 0 0, .int .i64 0, .int .i64 0, .int .i64 0] 35 (0, 0))
  n_ : W.heap[H]? = some (.cells #[.slice A0 l0.length c0, .slice A1 l1.length c1, .slice A2 l2.length c2] 28 (0, 0))
  bel : Below H w W
  big : H + 3 ≤ W.heap.size
section
variable {A0 : Option Addr} {c0 : Nat} {l0 : List Int} {A1 : Option Addr} {c1 : Nat} {l1 : List S66} {A2 : Option Addr} {c2 : Nat} {l2 : List Rul} {w : World} {H : Nat}
theorem RJ.below {pre : List Int} {W W' : World} (h : RJ H A0 c0 l0 A1 c1 l1 A2 c2 l2 w pre W) (hb : Below W.heap.size W W') : RJ H A0 c0 l0 A1 c1 l1 A2 c2 l2 w pre W' := by
  obtain ⟨⟨v, h1, h2⟩, h3, h4, h5, h6⟩ := h
  exact ⟨⟨v, blk_below h1 hb, row_below h2 hb⟩, blk_below h3 hb, blk_below h4 hb, h5.trans (hb.mono (by omega)), Nat.le_trans h6 hb.size⟩
theorem RJ.push {pre : List Int} {W w1 : World} {v v' : Value} {x : Int} (h : RJ H A0 c0 l0 A1 c1 l1 A2 c2 l2 w pre W)
    (k1 : W.heap[H + 2]? = some (.cells #[v, .int .i64 0, .int .i64 0, .int .i64 0] 35 (0, 0))) (hrow : W.ownsRow (H + 3) 3 1 v pre.length (pre.map (Value.int .i64))) (o : Obj)
    (hown : w1.ownsRow (H + 3) 3 1 v' (pre.length + 1) (pre.map (Value.int .i64) ++ [.int .i64 x])) (hg : (W.alloc o).grownBy w1 v.ownBlock) :
    RJ H A0 c0 l0 A1 c1 l1 A2 c2 l2 w (pre ++ [x]) (w1.setCell ⟨H + 2, 0, none⟩ v') ∧ w1.heap[H + 2]? = some (.cells #[v, .int .i64 0, .int .i64 0, .int .i64 0] 35 (0, 0)) ∧ w1.heap[H + 1]? = some (.cells #[.slice none 0 0, .int .i64 0, .int .i64 0, .int .i64 0] 35 (0, 0)) ∧ (w1.setCell ⟨H + 2, 0, none⟩ v').heap[H + 2]? = some (.cells #[v', .int .i64 0, .int .i64 0, .int .i64 0] 35 (0, 0)) ∧ (w1.setCell ⟨H + 2, 0, none⟩ v').ownsRow (H + 3) 3 1 v' (pre ++ [x]).length ((pre ++ [x]).map (Value.int .i64)) := by
  have hbig := h.big
  have hblk : ∀ k, k < H + 3 → w1.heap[k]? = W.heap[k]? := fun k hk => (hg.block k (by rw [World.size_alloc]; omega) (fun e => by
    obtain ⟨_, ⟨rfl, _⟩ | ⟨g, cap, cur, rfl, h4, _⟩⟩ := hrow
    · cases e
    · simp [Value.ownBlock] at e; omega)).trans (Below.heap_alloc W o k (by omega))
  have hset : ∀ k, k ≠ H + 2 → (w1.setCell ⟨H + 2, 0, none⟩ v').heap[k]? = w1.heap[k]? := fun k hk => Below.heap_setCell w1 _ v' k hk
  have t1 := (hblk (H + 2) (by omega)).trans k1
  have hsz1 : W.heap.size + 1 ≤ w1.heap.size := by have := hg.size; rw [World.size_alloc] at this; exact this
  have hbl0 : Below H w w1 := ((h.bel.alloc (by omega) o).grown hg (by rw [World.size_alloc]; omega) (fun q hq => by
    obtain ⟨_, ⟨rfl, _⟩ | ⟨g, cap, cur, rfl, h4, _⟩⟩ := hrow
    · cases hq
    · simp [Value.ownBlock] at hq; omega))
  have hrow' : (w1.setCell ⟨H + 2, 0, none⟩ v').ownsRow (H + 3) 3 1 v' (pre ++ [x]).length ((pre ++ [x]).map (Value.int .i64)) := by
    rw [List.length_append, List.map_append]
    exact row_far hown fun k hk => hset k (by omega)
  refine ⟨⟨⟨v', blk_set t1 0 v', hrow'⟩, (hset _ (by omega)).trans ((hblk _ (by omega)).trans h.r_), (hset _ (by omega)).trans ((hblk _ (by omega)).trans h.n_), hbl0.setCell (by show H ≤ H + 2; omega) v', ?_⟩, t1, (hblk _ (by omega)).trans h.r_, blk_set t1 0 v', hrow'⟩
  show H + 3 ≤ (w1.heap.modify _ _).size
  rw [Array.size_modify]
  omega
theorem traceR_no (d a : Int) (w : World) (h : NetAt A0 c0 l0 A1 c1 l1 A2 c2 l2 w) (hd : d < 0 ∨ (l0.length : Int) ≤ d) :
    Calls Try.prog 16 #[netV A0 c0 l0 A1 c1 l1 A2 c2 l2, .int .i64 d, .int .u32 a] w fun e w' => TraceAt ([], 0, 0, 0) 91 w.heap.size w e w' := by
  have huN := Try.underlying28
  have huT := Try.underlying25
  have huR := Try.underlying35
  have huP := Try.underlying33
  have hk : ((w.alloc (.cells #[.slice A0 l0.length c0, .slice A1 l1.length c1, .slice A2 l2.length c2] 28)).alloc (.cells #[.slice none 0 0, .int .i64 0, .int .i64 0, .int .i64 0] 35)).heap[w.heap.size + 1]? = some (.cells #[.slice none 0 0, .int .i64 0, .int .i64 0, .int .i64 0] 35 (0, 0)) := by
    have h := blk_new (w.alloc (.cells #[.slice A0 l0.length c0, .slice A1 l1.length c1, .slice A2 l2.length c2] 28)) (.cells #[.slice none 0 0, .int .i64 0, .int .i64 0, .int .i64 0] 35)
    rw [World.size_alloc] at h
    exact h
  have hn := blk_alloc (blk_new w (.cells #[.slice A0 l0.length c0, .slice A1 l1.length c1, .slice A2 l2.length c2] 28)) (.cells #[.slice none 0 0, .int .i64 0, .int .i64 0, .int .i64 0] 35)
  have n0 := blk_cell hn 0
  have k0 := blk_cell hk 0
  have k1 := blk_cell hk 1
  have k2 := blk_cell hk 2
  have k3 := blk_cell hk 3
  have f0 := blk_frozen hk 0
  have f1 := blk_frozen hk 1
  have f2 := blk_frozen hk 2
  have f3 := blk_frozen hk 3
  have HB := Aside0.mk (((Below.refl w.heap.size w).alloc (Nat.le_refl _) (.cells #[.slice A0 l0.length c0, .slice A1 l1.length c1, .slice A2 l2.length c2] 28)).alloc (by simp) (.cells #[.slice none 0 0, .int .i64 0, .int .i64 0, .int .i64 0] 35))
  have hm0 := Kd.C_max h.r0
  clear hk hn h
  by_cases h1 : d < 0
  · clear hd
    go_enter Try.func16, Try.ntmps16
    go_wp2
    exact bodyPost_ret (v := .tuple #[.agg #[.slice none 0 0, .int .i64 0, .int .i64 0, .int .i64 0], .int .i64 91]) (by simp [results, Try.results16, go_sem, k0, k1, k2, k3]) rfl ⟨_, rfl, World.ownsRow_nil _ _ _ _, HB.out⟩
  · have h2 : (l0.length : Int) ≤ d := by omega
    have h3 : decide (d < 0) = false := by simpa using h1
    have h4 : decide ((l0.length : Int) ≤ d) = true := by simpa using h2
    clear hd h1 h2
    go_enter Try.func16, Try.ntmps16
    go_wp2
    exact bodyPost_ret (v := .tuple #[.agg #[.slice none 0 0, .int .i64 0, .int .i64 0, .int .i64 0], .int .i64 91]) (by simp [results, Try.results16, go_sem, k0, k1, k2, k3]) rfl ⟨_, rfl, World.ownsRow_nil _ _ _ _, HB.out⟩
theorem tell_world {W : World} {V : Value} {n : Nat} {xs : List Value} (f x y : Int) (k2 : W.ownsRow (H + 3) 3 1 V n xs) (k3 : W.heap[H + 1]? = some (.cells #[.slice none 0 0, .int .i64 0, .int .i64 0, .int .i64 0] 35 (0, 0))) (k4 : Below H w W) :
    ∃ W' : World, (((W.setCell ⟨H + 1, 0, none⟩ V).setCell ⟨H + 1, 1, none⟩ (.int .i64 f)).setCell ⟨H + 1, 2, none⟩ (.int .i64 x)).setCell ⟨H + 1, 3, none⟩ (.int .i64 y) = W' ∧
      W'.heap[H + 1]? = some (.cells #[V, .int .i64 f, .int .i64 x, .int .i64 y] 35 (0, 0)) ∧ W'.ownsRow H 3 1 V n xs ∧ Below H w W' := by
  have hset : ∀ k, k ≠ H + 1 → ((((W.setCell ⟨H + 1, 0, none⟩ V).setCell ⟨H + 1, 1, none⟩ (.int .i64 f)).setCell ⟨H + 1, 2, none⟩ (.int .i64 x)).setCell ⟨H + 1, 3, none⟩ (.int .i64 y)).heap[k]? = W.heap[k]? := fun k hk =>
    (Below.heap_setCell _ _ _ k hk).trans ((Below.heap_setCell _ _ _ k hk).trans ((Below.heap_setCell _ _ _ k hk).trans (Below.heap_setCell _ _ _ k hk)))
  exact ⟨_, rfl, blk_set (blk_set (blk_set (blk_set k3 0 V) 1 (.int .i64 f)) 2 (.int .i64 x)) 3 (.int .i64 y), row_base (row_far k2 fun k hk => hset k (by omega)) (by omega),
    (((k4.setCell (p := ⟨H + 1, 0, none⟩) (by show H ≤ H + 1; omega) V).setCell (p := ⟨H + 1, 1, none⟩) (by show H ≤ H + 1; omega) (.int .i64 f)).setCell (p := ⟨H + 1, 2, none⟩) (by show H ≤ H + 1; omega) (.int .i64 x)).setCell (p := ⟨H + 1, 3, none⟩) (by show H ≤ H + 1; omega) (.int .i64 y)⟩
theorem RJ.tell {pre : List Int} {W X : World} {V : Value} (f x y : Int) (h : RJ H A0 c0 l0 A1 c1 l1 A2 c2 l2 w pre W) (hrow : W.ownsRow (H + 3) 3 1 V pre.length (pre.map (Value.int .i64))) (hX : ∀ k, k ≠ H + 2 → X.heap[k]? = W.heap[k]?) (hb : Below H w X) :
    ∃ W' : World, (((X.setCell ⟨H + 1, 0, none⟩ V).setCell ⟨H + 1, 1, none⟩ (.int .i64 f)).setCell ⟨H + 1, 2, none⟩ (.int .i64 x)).setCell ⟨H + 1, 3, none⟩ (.int .i64 y) = W' ∧
      W'.heap[H + 1]? = some (.cells #[V, .int .i64 f, .int .i64 x, .int .i64 y] 35 (0, 0)) ∧ W'.ownsRow H 3 1 V pre.length (pre.map (Value.int .i64)) ∧ Below H w W' :=
  tell_world f x y (row_far hrow fun k hk => hX k (by omega)) ((hX _ (by omega)).trans h.r_) hb
end
end Go.Proofs.Ytkjighagiecbaaa.H
