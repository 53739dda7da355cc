/- Ranges in any order: plain. -/
import Derived.Test.YtjfbiabgeickjaaAtmZ
namespace Go.Proofs.Ytjfbiabgeickjaa.H
open Go.RowKit Go.Proofs.Ytjfbiabgeickjaa.P Go.Proofs.YtjfbiabgeickjaaW.PrintWords Go.Proofs.YtjfbiabgeickjaaW.PrintLast Go.Proofs.YtjfbiabgeickjaaW.PrintMore
set_option linter.unusedVariables false
abbrev rdR (l : List Rg) (i : Int) : Rg := rd_T30 l i
def goodL (l : List Rg) : List Rg := l.filter fun p => !decide (p.f1 < p.f0)
theorem good_app (A B : List Rg) : goodL (A ++ B) = goodL A ++ goodL B := List.filter_append ..
theorem rdR_eq (l : List Rg) (j : Nat) (h : j < l.length) : rdR l (j : Int) = l[j] := by
  unfold rdR rd_T30
  rw [Int.toNat_natCast, List.getD_eq_getElem?_getD, List.getElem?_eq_getElem h]; rfl
theorem done_good (f t : Int) (L : List Rg) : doneL false f t L = L ++ goodL [⟨f, t⟩] := by
  unfold doneL goodL
  rw [if_neg Bool.false_ne_true]
  by_cases e : t < f
  · simp [e]
  · simp [e]
theorem Inv.step {l : List Rg} {m j : Nat} {x : Tab} (h : Inv m x (goodL (l.take j))) (hm : m ≤ 400) (hj : j < l.length) (p : Rg) (hp : rdR l (j : Int) = p) (h0 : 0 ≤ p.f0) (h1 : p.f0 ≤ 4294967295) (h2 : 0 ≤ p.f1) (h3 : p.f1 ≤ 4294967295) :
    Inv (m + 1) (doneX false p.f0 p.f1 x) (goodL (l.take (j + 1))) := by
  have hd := h.does hm false p.f0 p.f1 h0 h1 h2 h3
  rw [done_good] at hd
  have e : l.take (j + 1) = l.take j ++ [p] := by rw [List.take_add_one, List.getElem?_eq_getElem hj, ← hp, rdR_eq l j hj]; rfl
  rw [e, good_app]; exact hd
theorem sE_rev : ∀ (L : List Rg) (k : Int), sE L.reverse k = sE L k
  | [], _ => rfl
  | p :: L, k => by rw [List.reverse_cons, sE_app, sE_rev L k]; simp only [sE]; omega
theorem cR_rev : ∀ (L : List Rg) (k : Int), cR L.reverse k = cR L k
  | [], _ => rfl
  | p :: L, k => by rw [List.reverse_cons, cR_app, cR_rev L k]; simp only [cR]; omega
theorem good_rev (L : List Rg) : goodL L.reverse = (goodL L).reverse := by unfold goodL; rw [List.filter_reverse]
theorem Inv.unrev {m : Nat} {y : Tab} {L : List Rg} (h : Inv m y L.reverse) : Inv m y L :=
  ⟨rep_congr h.b (fun k => by unfold cB; rw [sE_rev]), rep_congr h.r (fun k => cR_rev L k), by rw [h.n, List.length_reverse], by have := h.len; rw [List.length_reverse] at this; exact this, h.sb, h.sr, fun p hp => h.ok p (List.mem_reverse.2 hp)⟩
theorem Inv.same_keys {m m' : Nat} {x y : Tab} {L : List Rg} (h : Inv m x L) (g : Inv m' y L) : keysT x.b = keysT y.b := by unfold keysT; rw [rep_eq h.b g.b]
theorem allL_mem : ∀ (L : List Rg) (p : Rg), p ∈ L → p.f0 ∈ allL L ∧ p.f1 + 1 ∈ allL L
  | [], _, h => by cases h
  | q :: L, p, h => by
    simp only [allL, List.mem_cons]
    rcases List.mem_cons.1 h with rfl | h
    · exact ⟨.inl rfl, .inr (.inl rfl)⟩
    · have := allL_mem L p h; exact ⟨.inr (.inr this.1), .inr (.inr this.2)⟩
theorem Inv.again {m m' : Nat} {x y : Tab} {L : List Rg} (h : Inv m x L) (p : Rg) (hp : p ∈ L) (g : Inv m' y (L ++ [p])) : keysT y.b = keysT x.b := by
  refine ext_by id _ _ (keys_up g.b.1) (keys_up h.b.1) (fun a => ?_)
  rw [g.keys, h.keys, allL_app]
  have hm := allL_mem L p hp
  simp only [allL, List.mem_cons, List.mem_append, List.not_mem_nil, or_false]
  constructor
  · rintro ⟨h1 | h1 | h1 | h1, h2⟩
    · exact ⟨.inl h1, h2⟩
    · exact ⟨.inr h1, h2⟩
    · exact ⟨.inr (h1 ▸ hm.1), h2⟩
    · exact ⟨.inr (h1 ▸ hm.2), h2⟩
  · rintro ⟨h1 | h1, h2⟩
    · exact ⟨.inl h1, h2⟩
    · exact ⟨.inr (.inl h1), h2⟩
theorem cnt_app (f t : Int) : ∀ A B : List Rg, cntL f t (A ++ B) = cntL f t A + cntL f t B
  | [], B => by simp [cntL]
  | p :: A, B => by simp only [List.cons_append, cntL, cnt_app f t A B]; omega
theorem cnt_one (p : Rg) : cntL p.f0 p.f1 [p] = 1 := by simp [cntL]
theorem rev_at (l : List Rg) (n j : Nat) (hn : n ≤ l.length) (hj : j < n) : rdR (l.take n).reverse (j : Int) = rdR l ((n - 1 - j : Nat) : Int) := by
  have h1 : j < (l.take n).reverse.length := by rw [List.length_reverse, List.length_take]; omega
  rw [rdR_eq _ _ h1, rdR_eq l (n - 1 - j) (by omega), List.getElem_reverse, List.getElem_take]
  congr 1
  rw [List.length_take]; omega
theorem order_end {l : List Rg} {m n : Nat} {x y : Tab} (hn : n ≤ l.length) (h : Inv m x (goodL (l.take n))) (g : Inv m y (goodL ((l.take n).reverse.take n))) : Inv m y (goodL (l.take n)) := by
  rw [List.take_of_length_le (by rw [List.length_reverse, List.length_take]; omega), good_rev] at g
  exact g.unrev
/-- A range that is there already, once more. -/
theorem Inv.twice {l : List Rg} {m n j : Nat} {x : Tab} (h : Inv m x (goodL (l.take n))) (hm : m ≤ 400) (hn : n ≤ l.length) (hj : j < n) (p : Rg) (hp : rdR l (j : Int) = p) (h0 : 0 ≤ p.f0) (h1 : p.f0 ≤ 4294967295) (h2 : 0 ≤ p.f1) (h3 : p.f1 ≤ 4294967295) (hg : ¬ p.f1 < p.f0) :
    sz (doneX false p.f0 p.f1 x).b = sz x.b ∧ numT (keyF p.f0 p.f1) (doneX false p.f0 p.f1 x).r = numT (keyF p.f0 p.f1) x.r + 1 ∧ doneE false p.f0 p.f1 (goodL (l.take n)) = 0 := by
  have hmem : p ∈ goodL (l.take n) := by
    unfold goodL
    rw [List.mem_filter]
    refine ⟨?_, by simpa using hg⟩
    rw [← hp, rdR_eq l j (by omega)]
    exact List.mem_take_iff_getElem.2 ⟨j, by omega, rfl⟩
  have hd := h.does hm false p.f0 p.f1 h0 h1 h2 h3
  have e : doneL false p.f0 p.f1 (goodL (l.take n)) = goodL (l.take n) ++ [p] := by unfold doneL; simp [hg]
  rw [e] at hd
  refine ⟨?_, ?_, by unfold doneE; simp [hg]⟩
  · have := congrArg List.length (h.again p hmem hd)
    rw [keys_len, keys_len] at this; exact this
  · rw [hd.num p.f0 p.f1 h0 h1 h2 h3, h.num p.f0 p.f1 h0 h1 h2 h3, cnt_app, cnt_one]; rfl
theorem good_no {p : Rg} (L : List Rg) (hg : p.f1 < p.f0) : doneE false p.f0 p.f1 L = 51 := by unfold doneE; simp [hg]
end Go.Proofs.Ytjfbiabgeickjaa.H
