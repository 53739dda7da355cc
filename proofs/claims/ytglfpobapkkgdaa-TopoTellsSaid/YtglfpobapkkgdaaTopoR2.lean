/- What the document's answers for topologies come to: likeness, ends. -/
import Derived.Test.YtglfpobapkkgdaaTopo12
import Derived.Test.YtglfpobapkkgdaaTopoR1
import Derived.Test.YtglfpobapkkgdaaPx5
import Derived.Test.YtglfpobapkkgdaaPx6
namespace Go.Proofs.Ytglfpobapkkgdaa.H
open Go.RowKit Go.Proofs.Ytglfpobapkkgdaa.P Go.Proofs.YtglfpobapkkgdaaW.PrintWords Go.Proofs.YtglfpobapkkgdaaW.PrintLast Go.Proofs.YtglfpobapkkgdaaW.PrintMore
set_option linter.unusedVariables false
set_option linter.unusedSimpArgs false
def allF (f : Nat → Bool) (j : Nat) : Nat → Bool
  | 0 => true
  | d + 1 => f j && allF f (j + 1) d
theorem evCast {α : Type} {g : Nat → Option α} {r r' : α} (h : Ev g r) (e : r = r') : Ev g r' := e ▸ h
/-- Two lists of numbers, place by place. -/
def eqI (x y : List Int) (j : Nat) : Bool := decide (rd x (j : Int) = rd y (j : Int))
def eqL (x y : List S38) (j : Nat) : Bool := !((!((rd_T38 x (j : Int)).f0.f0 == (rd_T38 y (j : Int)).f0.f0) || !((rd_T38 x (j : Int)).f0.f1 == (rd_T38 y (j : Int)).f0.f1)) || (!((rd_T38 x (j : Int)).f1.f0 == (rd_T38 y (j : Int)).f1.f0) || !((rd_T38 x (j : Int)).f1.f1 == (rd_T38 y (j : Int)).f1.f1)))
theorem seqI_l0 (x y : List Int) (hl : x.length = y.length) (h : x.length ≤ 9223372036854775807) (d : Nat) : ∀ j : Nat, j ≤ x.length → x.length - j = d → Ev (fun k => slices_Equal_int_int.l0 k x y (x.length : Int) (j : Int)) (allF (eqI x y) j d) := by
  induction d with
  | zero =>
    intro j hj hd
    obtain rfl : j = x.length := by omega
    refine Ev.step (fun k => by rw [slices_Equal_int_int.l0]) ?_
    simp only [Int.lt_irrefl, if_false, allF]
    exact Ev.now _
  | succ d ih =>
    intro j hj hd
    have hlt : j < x.length := by omega
    have ih := ih (j + 1) (by omega) (by omega)
    refine Ev.step (fun k => by rw [slices_Equal_int_int.l0]) ?_
    simp only [show ((j : Int) < (x.length : Int)) from by omega, show (0 : Int) ≤ (j : Int) from by omega, show ((j : Int) < (y.length : Int)) from by omega, if_true, wrap_up hlt h, allF, eqI]
    by_cases c : rd x (j : Int) = rd y (j : Int)
    · simp only [c, if_true, decide_true, Bool.true_and]; exact ih
    · simp only [c, if_false, decide_false, Bool.false_and]; exact Ev.now _
theorem seqL_l0 (x y : List S38) (hl : x.length = y.length) (h : x.length ≤ 9223372036854775807) (d : Nat) : ∀ j : Nat, j ≤ x.length → x.length - j = d → Ev (fun k => api_Link_36.l0 k x y (x.length : Int) (j : Int)) (allF (eqL x y) j d) := by
  induction d with
  | zero =>
    intro j hj hd
    obtain rfl : j = x.length := by omega
    refine Ev.step (fun k => by rw [api_Link_36.l0]) ?_
    simp only [Int.lt_irrefl, if_false, allF]
    exact Ev.now _
  | succ d ih =>
    intro j hj hd
    have hlt : j < x.length := by omega
    have ih := ih (j + 1) (by omega) (by omega)
    refine Ev.step (fun k => by rw [api_Link_36.l0]) ?_
    simp only [show ((j : Int) < (x.length : Int)) from by omega, show (0 : Int) ≤ (j : Int) from by omega, show ((j : Int) < (y.length : Int)) from by omega, if_true, wrap_up hlt h, allF, eqL]
    generalize ((!((rd_T38 x (j : Int)).f0.f0 == (rd_T38 y (j : Int)).f0.f0) || !((rd_T38 x (j : Int)).f0.f1 == (rd_T38 y (j : Int)).f0.f1)) || (!((rd_T38 x (j : Int)).f1.f0 == (rd_T38 y (j : Int)).f1.f0) || !((rd_T38 x (j : Int)).f1.f1 == (rd_T38 y (j : Int)).f1.f1))) = c
    cases c with
    | false => simp only [Bool.false_eq_true, if_false, Bool.not_false, Bool.true_and]; exact ih
    | true => simp only [if_true, Bool.not_true, Bool.false_and]; exact Ev.now _
/-- Are two topologies alike? -/
def sameT (x : List Int) (x' : List S38) (y : List Int) (y' : List S38) : Bool :=
  decide (x.length = y.length) && (decide (x'.length = y'.length) && (allF (eqI x y) 0 x.length && allF (eqL x' y') 0 x'.length))
theorem topoSame_ev (x : List Int) (x' : List S38) (y : List Int) (y' : List S38) (h : x.length ≤ 9223372036854775807) (h' : x'.length ≤ 9223372036854775807) : Ev (fun k => topo_Same.f k x x' y y') (sameT x x' y y') := by
  unfold topo_Same.f sameT
  have hA : Ev (fun k => slices_Equal_int_int.f k x y) (decide (x.length = y.length) && allF (eqI x y) 0 x.length) := by
    unfold slices_Equal_int_int.f
    by_cases c : x.length = y.length
    · have := seqI_l0 x y c h _ 0 (by omega) rfl
      rw [Nat.sub_zero] at this
      simp only [show ((x.length : Int) = (y.length : Int)) from by omega, if_true, decide_eq_true c, Bool.true_and]
      rw [show ((y.length : Nat) : Int) = (x.length : Int) from by omega]
      exact this
    · simp only [show ¬ ((x.length : Int) = (y.length : Int)) from by omega, if_false, c, decide_false, Bool.false_and]
      exact Ev.now _
  have hB : Ev (fun k => api_Link_36.f k x' y') (decide (x'.length = y'.length) && allF (eqL x' y') 0 x'.length) := by
    unfold api_Link_36.f
    by_cases c : x'.length = y'.length
    · have := seqL_l0 x' y' c h' _ 0 (by omega) rfl
      rw [Nat.sub_zero] at this
      simp only [show ((x'.length : Int) = (y'.length : Int)) from by omega, if_true, decide_eq_true c, Bool.true_and]
      rw [show ((y'.length : Nat) : Int) = (x'.length : Int) from by omega]
      exact this
    · simp only [show ¬ ((x'.length : Int) = (y'.length : Int)) from by omega, if_false, c, decide_false, Bool.false_and]
      exact Ev.now _
  refine Ev.bind hA ?_
  cases hq : (decide (x.length = y.length) && allF (eqI x y) 0 x.length) with
  | false =>
    simp only [Bool.false_eq_true, if_false]
    refine evCast (Ev.now false) ?_
    revert hq
    cases decide (x.length = y.length) <;> cases allF (eqI x y) 0 x.length <;> simp
  | true =>
    simp only [if_true]
    refine Ev.bind hB ?_
    refine evCast (Ev.now _) ?_
    revert hq
    cases decide (x.length = y.length) <;> cases allF (eqI x y) 0 x.length <;> simp
theorem refS_l1 (x : List Int) (x' : List S38) (y : List Int) (y' : List S38) (hl : x'.length = y'.length) (h : x'.length ≤ 9223372036854775807) (d : Nat) : ∀ j : Nat, j ≤ x'.length → x'.length - j = d → Ev (fun k => waystoneref08_Same.l1 k (j : Int) x x' y y') (allF (eqL x' y') j d) := by
  induction d with
  | zero =>
    intro j hj hd
    obtain rfl : j = x'.length := by omega
    refine Ev.step (fun k => by rw [waystoneref08_Same.l1]) ?_
    simp only [Int.lt_irrefl, if_false, allF]
    exact Ev.now _
  | succ d ih =>
    intro j hj hd
    have hlt : j < x'.length := by omega
    have ih := ih (j + 1) (by omega) (by omega)
    refine Ev.step (fun k => by rw [waystoneref08_Same.l1]) ?_
    simp only [show ((j : Int) < (x'.length : Int)) from by omega, show (0 : Int) ≤ (j : Int) from by omega, show ((j : Int) < (y'.length : Int)) from by omega, if_true, wrap_up hlt h, allF, eqL]
    generalize ((!((rd_T38 x' (j : Int)).f0.f0 == (rd_T38 y' (j : Int)).f0.f0) || !((rd_T38 x' (j : Int)).f0.f1 == (rd_T38 y' (j : Int)).f0.f1)) || (!((rd_T38 x' (j : Int)).f1.f0 == (rd_T38 y' (j : Int)).f1.f0) || !((rd_T38 x' (j : Int)).f1.f1 == (rd_T38 y' (j : Int)).f1.f1))) = c
    cases c with
    | false => simp only [Bool.false_eq_true, if_false, Bool.not_false, Bool.true_and]; exact ih
    | true => simp only [if_true, Bool.not_true, Bool.false_and]; exact Ev.now _
theorem refS_l0 (x : List Int) (x' : List S38) (y : List Int) (y' : List S38) (hl : x.length = y.length) (h : x.length ≤ 9223372036854775807) (r : Bool) (hr : Ev (fun k => waystoneref08_Same.l1 k 0 x x' y y') r) (d : Nat) : ∀ j : Nat, j ≤ x.length → x.length - j = d → Ev (fun k => waystoneref08_Same.l0 k (j : Int) x x' y y') (allF (eqI x y) j d && r) := by
  induction d with
  | zero =>
    intro j hj hd
    obtain rfl : j = x.length := by omega
    refine Ev.step (fun k => by rw [waystoneref08_Same.l0]) ?_
    simp only [Int.lt_irrefl, if_false, allF, Bool.true_and]
    exact hr
  | succ d ih =>
    intro j hj hd
    have hlt : j < x.length := by omega
    have ih := ih (j + 1) (by omega) (by omega)
    refine Ev.step (fun k => by rw [waystoneref08_Same.l0]) ?_
    simp only [show ((j : Int) < (x.length : Int)) from by omega, show (0 : Int) ≤ (j : Int) from by omega, show ((j : Int) < (y.length : Int)) from by omega, if_true, wrap_up hlt h, allF, eqI]
    by_cases c : rd x (j : Int) = rd y (j : Int)
    · simp only [c, if_true, decide_true, Bool.true_and]; exact ih
    · simp only [c, if_false, decide_false, Bool.false_and]; exact Ev.now _
theorem refSame_ev (x : List Int) (x' : List S38) (y : List Int) (y' : List S38) (h : x.length ≤ 9223372036854775807) (h' : x'.length ≤ 9223372036854775807) : Ev (fun k => waystoneref08_Same.f k x x' y y') (sameT x x' y y') := by
  have ht : Ev (fun k => waystoneref08_Same.j0 k true x x' y y') false := by
    refine Ev.step (fun k => by rw [waystoneref08_Same.j0]) ?_
    simp only [if_true]
    exact Ev.now _
  unfold waystoneref08_Same.f sameT
  by_cases c : x.length = y.length
  · simp only [show ((x.length : Int) = (y.length : Int)) from by omega, if_true, decide_eq_true c, Bool.true_and]
    by_cases c' : x'.length = y'.length
    · have e : (((x'.length : Int)) != ((y'.length : Int))) = false := by rw [c']; simp
      simp only [e, decide_eq_true c', Bool.true_and]
      refine Ev.step (fun k => by rw [waystoneref08_Same.j0]) ?_
      simp only [Bool.false_eq_true, if_false]
      have h1 := refS_l1 x x' y y' c' h' _ 0 (by omega) rfl
      have h2 := refS_l0 x x' y y' c h _ h1 _ 0 (by omega) rfl
      simpa using h2
    · have e : (((x'.length : Int)) != ((y'.length : Int))) = true := by rw [bne_iff_ne]; omega
      simp only [e, c', decide_false, Bool.false_and]
      exact ht
  · simp only [show ¬ ((x.length : Int) = (y.length : Int)) from by omega, if_false, c, decide_false, Bool.false_and]
    exact ht
/-! ### Next, Edges -/
theorem nxt_cons (a b : S27) (t : List (S27 × S27)) (p : S27) : nxt ((a, b) :: t) p = if a = p then some b else if b = p then some a else nxt t p := rfl
theorem refN_l0 (l0 : List Int) (l1 : List S38) (p0 p1 : Int) (h1 : l1.length ≤ 9223372036854775807) (d : Nat) : ∀ j : Nat, j ≤ l1.length → l1.length - j = d →
    Ev (fun k => waystoneref08_Next.l0 k (j : Int) l0 l1 p0 p1) (((nxt (lks (l1.drop j)) ⟨p0, p1⟩).getD z27).f0, ((nxt (lks (l1.drop j)) ⟨p0, p1⟩).getD z27).f1, (nxt (lks (l1.drop j)) ⟨p0, p1⟩).isSome) := by
  induction d with
  | zero =>
    intro j hj hd
    obtain rfl : j = l1.length := by omega
    refine Ev.step (fun k => by rw [waystoneref08_Next.l0]) ?_
    rw [List.drop_length]
    simp only [Int.lt_irrefl, if_false]
    exact Ev.now _
  | succ d ih =>
    intro j hj hd
    have hlt : j < l1.length := by omega
    have ih := ih (j + 1) (by omega) (by omega)
    refine Ev.step (fun k => by rw [waystoneref08_Next.l0]) ?_
    rw [List.drop_eq_getElem_cons hlt]
    simp only [show ((j : Int) < (l1.length : Int)) from by omega, show (0 : Int) ≤ (j : Int) from by omega, if_true, wrap_up hlt h1, rd38_at l1 j hlt]
    generalize l1[j] = x at *
    have e1 : (x.f0.f0 == p0 && (x.f0.f1 == p1)) = decide (x.f0 = ⟨p0, p1⟩) := eqP_dec x.f0 ⟨p0, p1⟩
    have e2 : (x.f1.f0 == p0 && (x.f1.f1 == p1)) = decide (x.f1 = ⟨p0, p1⟩) := eqP_dec x.f1 ⟨p0, p1⟩
    rw [e1, e2, show lks (x :: l1.drop (j + 1)) = (x.f0, x.f1) :: lks (l1.drop (j + 1)) from rfl, nxt_cons]
    by_cases c1 : x.f0 = ⟨p0, p1⟩
    · simp only [c1, decide_true, if_true]
      exact Ev.now _
    · by_cases c2 : x.f1 = ⟨p0, p1⟩
      · simp only [c1, c2, decide_true, decide_false, if_true, Bool.false_eq_true, if_false]
        exact Ev.now _
      · simp only [c1, c2, decide_false, Bool.false_eq_true, if_false]
        exact ih
theorem refNext_ev (l0 : List Int) (l1 : List S38) (h : RightT l0 l1) (p0 p1 : Int) : Ev (fun k => waystoneref08_Next.f k l0 l1 p0 p1) ((nextQ l1 ⟨p0, p1⟩).f0, (nextQ l1 ⟨p0, p1⟩).f1, nextB l1 ⟨p0, p1⟩) := by
  have h1 := refN_l0 l0 l1 p0 p1 (by have := h.l16; omega) _ 0 (by omega) rfl
  rw [List.drop_zero, ← look_right h] at h1
  exact h1
theorem refE_l (l0 : List Int) (l1 : List S38) (h : RightT l0 l1) (r : List S27) (j : Nat) (hj : j < l0.length) (X : List S27) (hX : X.length ≤ 4000)
    (hr : Ev (fun k => waystoneref08_Edges.l0 k (X ++ rowE (joinL l1) j (rdOf 0 l0 (j : Int)).toNat) ((j + 1 : Nat) : Int) l0 l1) r) (d : Nat) : ∀ i : Nat, i ≤ (rdOf 0 l0 (j : Int)).toNat → (rdOf 0 l0 (j : Int)).toNat - i = d →
    Ev (fun k => waystoneref08_Edges.l1 k (X ++ rowE (joinL l1) j i) (j : Int) (i : Int) l0 l1) r := by
  have hg := getD_range h.ports j hj
  have h8 := h.n8
  have e : rd l0 (j : Int) = rdOf 0 l0 (j : Int) := rfl
  induction d with
  | zero =>
    intro i hi hd
    obtain rfl : i = (rdOf 0 l0 (j : Int)).toNat := by omega
    refine Ev.step (fun k => by rw [waystoneref08_Edges.l1]) ?_
    simp only [show (0 : Int) ≤ (j : Int) from by omega, show ((j : Int) < (l0.length : Int)) from by omega, if_true, e, show ¬ (((rdOf 0 l0 (j : Int)).toNat : Int) < rdOf 0 l0 (j : Int)) from by omega, if_false, wrap_up hj (by omega)]
    exact hr
  | succ d ih =>
    intro i hi hd
    have ih := ih (i + 1) (by omega) (by omega)
    refine Ev.step (fun k => by rw [waystoneref08_Edges.l1]) ?_
    simp only [show (0 : Int) ≤ (j : Int) from by omega, show ((j : Int) < (l0.length : Int)) from by omega, if_true, e, show (((i : Nat) : Int) < rdOf 0 l0 (j : Int)) from by omega, show wrap64 ((i : Int) + 1) = ((i + 1 : Nat) : Int) from by unfold wrap64; omega]
    refine Ev.bind (refNext_ev l0 l1 h (j : Int) (i : Int)) ?_
    have hlen := rowE_len (joinL l1) j i
    have hl2 : (X ++ rowE (joinL l1) j i).length < 8796093022208 := by rw [List.length_append]; omega
    rw [rowE] at ih
    unfold nextB
    cases hq : (look (joinL l1) ⟨(j : Int), (i : Int)⟩).isSome with
    | true =>
      rw [hq] at ih
      simp only [if_true, List.append_nil] at ih ⊢
      exact ih
    | false =>
      rw [hq] at ih
      simp only [Bool.false_eq_true, if_false, hl2, if_true] at ih ⊢
      rw [← List.append_assoc] at ih
      exact ih
theorem refE_l0 (l0 : List Int) (l1 : List S38) (h : RightT l0 l1) (d : Nat) : ∀ j : Nat, j ≤ l0.length → l0.length - j = d →
    Ev (fun k => waystoneref08_Edges.l0 k (edgesE l0 (joinL l1) j) (j : Int) l0 l1) (edgesE l0 (joinL l1) l0.length) := by
  have h8 := h.n8
  induction d with
  | zero =>
    intro j hj hd
    obtain rfl : j = l0.length := by omega
    refine Ev.step (fun k => by rw [waystoneref08_Edges.l0]) ?_
    simp only [Int.lt_irrefl, if_false]
    exact Ev.now _
  | succ d ih =>
    intro j hj hd
    have hlt : j < l0.length := by omega
    have ih := ih (j + 1) (by omega) (by omega)
    have hg := getD_range h.ports j hlt
    refine Ev.step (fun k => by rw [waystoneref08_Edges.l0]) ?_
    simp only [show ((j : Int) < (l0.length : Int)) from by omega, if_true]
    rw [edgesE, show mn (rdOf 0 l0 (j : Int)) 4 = rdOf 0 l0 (j : Int) from by unfold mn; rw [if_neg (by omega)]] at ih
    have hl := edgesE_len l0 (joinL l1) j
    have h2 := refE_l l0 l1 h _ j hlt (edgesE l0 (joinL l1) j) (by omega) ih _ 0 (by omega) rfl
    rw [rowE, List.append_nil] at h2
    exact h2
theorem refEdges_ev (l0 : List Int) (l1 : List S38) (h : RightT l0 l1) : Ev (fun k => waystoneref08_Edges.f k l0 l1) (edgesE l0 (joinL l1) l0.length) := refE_l0 l0 l1 h _ 0 (by omega) rfl
theorem samePorts_l0 (x : List S27) (h : x.length ≤ 9223372036854775807) (d : Nat) : ∀ j : Nat, j ≤ x.length → x.length - j = d → Ev (fun k => waystoneref08_SamePorts.l0 k x x (j : Int)) true := by
  induction d with
  | zero =>
    intro j hj hd
    obtain rfl : j = x.length := by omega
    refine Ev.step (fun k => by rw [waystoneref08_SamePorts.l0]) ?_
    simp only [Int.lt_irrefl, if_false]
    exact Ev.now _
  | succ d ih =>
    intro j hj hd
    have hlt : j < x.length := by omega
    have ih := ih (j + 1) (by omega) (by omega)
    refine Ev.step (fun k => by rw [waystoneref08_SamePorts.l0]) ?_
    simp only [show ((j : Int) < (x.length : Int)) from by omega, show (0 : Int) ≤ (j : Int) from by omega, if_true, wrap_up hlt h, beq_self_eq_true, Bool.not_true, Bool.or_false, Bool.false_eq_true, if_false]
    exact ih
theorem samePorts_ev (x : List S27) (h : x.length ≤ 9223372036854775807) : Ev (fun k => waystoneref08_SamePorts.f k x x) true := by
  unfold waystoneref08_SamePorts.f
  simp only [if_true]
  exact samePorts_l0 x h _ 0 (by omega) rfl
end Go.Proofs.Ytglfpobapkkgdaa.H
