/- Ranges that are added and dropped again: plain; tables beside a row that grows. -/
import Derived.Test.YtjfbiabgeickjaaAtmZ
namespace Go.Proofs.Ytjfbiabgeickjaa.H
open Go.RowKit Go.Proofs.Ytjfbiabgeickjaa.P Go.Proofs.YtjfbiabgeickjaaW.PrintWords Go.Proofs.YtjfbiabgeickjaaW.PrintLast Go.Proofs.YtjfbiabgeickjaaW.PrintMore
set_option linter.unusedVariables false
theorem TreeAt.grown {W w1 : World} {row : Option Nat} (hne : ∀ (g : Nat) (cs : Array Value) (t : Nat), W.heap[g]? = some (.cells cs t (0, 0)) → 30 ≠ t → some g ≠ row) (hg : W.grownBy w1 row) : ∀ {t : T} {p : Option Addr}, TreeAt W p t → TreeAt w1 p t
  | .leaf, _, h1 => h1
  | .node l k v r, _, ⟨g, pl, pr, h1, h2, h3, h4⟩ => ⟨g, pl, pr, h1, (hg.block g (blk_lt h2) (hne g _ _ h2 (by decide))).trans h2, h3.grown hne hg, h4.grown hne hg⟩
theorem RootAt.grown {W w1 : World} {row : Option Nat} (hne : ∀ (g : Nat) (cs : Array Value) (t : Nat), W.heap[g]? = some (.cells cs t (0, 0)) → 30 ≠ t → some g ≠ row) (hg : W.grownBy w1 row) {P : Option Addr} {t : T} (h : RootAt W P t) : RootAt w1 P t := by
  rcases h with h | ⟨g, p, h1, h2, h3⟩
  · exact .inl h
  · exact .inr ⟨g, p, h1, (hg.block g (blk_lt h2) (hne g _ _ h2 (by decide))).trans h2, h3.grown hne hg⟩
theorem TabAtm.grown {W w1 : World} {base : Nat} {ok : Nat → Prop} {v : Value} {D : List Rg} (hR : Kd.R kR 30 W base ok v D) (hg : W.grownBy w1 v.ownBlock) {P : Option Addr} {x : Tab} (h : TabAtm W P x) : TabAtm w1 P x := by
  have hne : ∀ (g : Nat) (cs : Array Value) (t : Nat), W.heap[g]? = some (.cells cs t (0, 0)) → 30 ≠ t → some g ≠ v.ownBlock := fun g cs t hb ht => Kd.R_ne hR hb ht
  obtain ⟨g, pb, pr, h1, h2, h3, h4⟩ := h
  exact ⟨g, pb, pr, h1, (hg.block g (blk_lt h2) (hne g _ _ h2 (by decide))).trans h2, h3.grown hne hg, h4.grown hne hg⟩
abbrev rdR (l : List Rg) (i : Int) : Rg := rd_T30 l i
def goodL (l : List Rg) : List Rg := l.filter fun p => !decide (p.f1 < p.f0)
theorem good_app (A B : List Rg) : goodL (A ++ B) = goodL A ++ goodL B := List.filter_append ..
theorem rdR_eq (l : List Rg) (j : Nat) (h : j < l.length) : rdR l (j : Int) = l[j] := by
  unfold rdR rd_T30
  rw [Int.toNat_natCast, List.getD_eq_getElem?_getD, List.getElem?_eq_getElem h]; rfl
theorem good_take (l : List Rg) (j : Nat) (h : j < l.length) (p : Rg) (hp : rdR l (j : Int) = p) : goodL (l.take (j + 1)) = goodL (l.take j) ++ goodL [p] := by
  have e : l.take (j + 1) = l.take j ++ [p] := by rw [List.take_add_one, List.getElem?_eq_getElem h, ← hp, rdR_eq l j h]; rfl
  rw [e, good_app]
theorem good_len (l : List Rg) (j : Nat) : (goodL (l.take j)).length ≤ j := by
  have h1 : (goodL (l.take j)).length ≤ (l.take j).length := List.length_filter_le _ _
  rw [List.length_take] at h1; omega
theorem Inv.recount {m : Nat} {y : Tab} {M L : List Rg} (h : Inv m y M) (hs : ∀ k, sE M k = sE L k) (hr : ∀ k, cR M k = cR L k) (hl : M.length = L.length) (ho : ∀ p ∈ L, 0 ≤ p.f0 ∧ p.f0 ≤ p.f1 ∧ p.f1 ≤ 4294967295) : Inv m y L :=
  ⟨rep_congr h.b (fun k => by unfold cB; rw [hs]), rep_congr h.r hr, by rw [h.n, hl], by rw [← hl]; exact h.len, h.sb, h.sr, ho⟩
/-- One more range is added behind. -/
theorem Inv.adds {m : Nat} {x : Tab} {L D : List Rg} (h : Inv m x (L ++ D)) (hm : m ≤ 400) (p : Rg) (h0 : 0 ≤ p.f0) (h1 : p.f0 ≤ 4294967295) (h2 : 0 ≤ p.f1) (h3 : p.f1 ≤ 4294967295) : Inv (m + 1) (doneX false p.f0 p.f1 x) (L ++ (D ++ goodL [p])) := by
  have hd := h.does hm false p.f0 p.f1 h0 h1 h2 h3
  have e : doneL false p.f0 p.f1 (L ++ D) = L ++ (D ++ goodL [p]) := by
    unfold doneL goodL
    rw [if_neg Bool.false_ne_true]
    by_cases c : p.f1 < p.f0 <;> simp [c]
  rw [e] at hd; exact hd
/-- The first of those behind is dropped. -/
theorem Inv.drops {m : Nat} {x : Tab} {L D : List Rg} {p : Rg} (h : Inv m x (L ++ p :: D)) (hm : m ≤ 400) : Inv m (doneX true p.f0 p.f1 x) (L ++ D) ∧ doneE true p.f0 p.f1 (L ++ p :: D) = 0 := by
  have hp : p ∈ L ++ p :: D := List.mem_append_right _ (List.mem_cons_self ..)
  obtain ⟨o1, o2, o3⟩ := h.ok p hp
  have hh : hasR p.f0 p.f1 (L ++ p :: D) = true := (hasR_iff _ _ _).2 hp
  have hd := (h.drop hm p.f0 p.f1 hp).2.2
  have hn : numT (keyF p.f0 p.f1) x.r ≠ 0 := by
    rw [h.num p.f0 p.f1 o1 (by omega) (by omega) o3]
    have := (cnt_iff p.f0 p.f1 (L ++ p :: D)).1 hh
    omega
  have e1 : doneX true p.f0 p.f1 x = withTab p.f0 p.f1 (-1) x := by unfold doneX; rw [if_pos rfl, if_neg hn]
  refine ⟨?_, by unfold doneE; rw [if_pos rfl, if_pos hh]⟩
  rw [e1]
  refine hd.recount (fun k => ?_) (fun k => ?_) ?_ (fun q hq => h.ok q ?_)
  · have := sE_del p k _ hp
    rw [sE_app] at this ⊢
    simp only [sE] at this
    omega
  · have := cR_del p k _ hp
    rw [cR_app] at this ⊢
    simp only [cR] at this
    omega
  · have := del_len p.f0 p.f1 _ hp
    rw [List.length_append, List.length_cons] at this
    rw [List.length_append]; omega
  · rcases List.mem_append.1 hq with hq | hq
    · exact List.mem_append_left _ hq
    · exact List.mem_append_right _ (List.mem_cons_of_mem _ hq)
theorem Inv.same_ranges {m m' : Nat} {x y : Tab} {L : List Rg} (h : Inv m x L) (g : Inv m' y L) : rangesT y.r = rangesT x.r := by unfold rangesT; rw [rep_eq g.r h.r]
theorem drop_cons_rd (D : List Rg) (k : Nat) (h : k < D.length) (p : Rg) (hp : rdR D (k : Int) = p) : D.drop k = p :: D.drop (k + 1) := by
  rw [List.drop_eq_getElem_cons h, ← hp, rdR_eq D k h]
end Go.Proofs.Ytjfbiabgeickjaa.H
