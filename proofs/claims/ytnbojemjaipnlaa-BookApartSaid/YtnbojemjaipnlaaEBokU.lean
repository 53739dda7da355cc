/- BokT, BokU. -/
import Derived.Test.YtnbojemjaipnlaaEBokD
/-! ### BokT -/
namespace Go.Proofs.Ytnbojemjaipnlaa.H
open Go.RowKit Go.Proofs.Ytnbojemjaipnlaa.P Go.Proofs.YtnbojemjaipnlaaW.PrintWords Go.Proofs.YtnbojemjaipnlaaW.PrintLast Go.Proofs.YtnbojemjaipnlaaW.PrintMore
set_option linter.unusedVariables false
set_option linter.unusedSimpArgs false
set_option maxRecDepth 20000
def laidAt (cs : Array Value) (o : Nat) : List Value → Array Value
  | [] => cs
  | v :: r => laidAt (cs.setIfInBounds o v) (o + 1) r
theorem laidAt_size : ∀ (vs : List Value) (cs : Array Value) (o : Nat), (laidAt cs o vs).size = cs.size
  | [], _, _ => rfl
  | v :: r, cs, o => by rw [laidAt, laidAt_size r]; simp
theorem laidAt_other : ∀ (vs : List Value) (cs : Array Value) (o k : Nat), (k < o ∨ o + vs.length ≤ k) → (laidAt cs o vs)[k]? = cs[k]?
  | [], _, _, _, _ => rfl
  | v :: r, cs, o, k, h => by
    rw [List.length_cons] at h
    rw [laidAt, laidAt_other r _ _ k (by omega), Array.getElem?_setIfInBounds, if_neg (by omega)]
theorem laidAt_at : ∀ (vs : List Value) (cs : Array Value) (o i : Nat) (u : Value), o + vs.length ≤ cs.size → vs[i]? = some u → (laidAt cs o vs)[o + i]? = some u
  | [], _, _, _, _, _, h => by simp at h
  | v :: r, cs, o, 0, u, hs, h => by
    simp at h
    subst h
    rw [List.length_cons] at hs
    rw [laidAt, laidAt_other r _ _ (o + 0) (by omega)]
    simp [Array.getElem?_setIfInBounds]
    omega
  | v :: r, cs, o, i + 1, u, hs, h => by
    rw [List.length_cons] at hs
    have := laidAt_at r (cs.setIfInBounds o v) (o + 1) i u (by simp; omega) (by simpa using h)
    rw [laidAt, show o + (i + 1) = o + 1 + i by omega]
    exact this
theorem setCells_laid {g : Nat} {t : TypeId} : ∀ (vs : List Value) (o : Nat) {w : World} {cs : Array Value}, w.heap[g]? = some (.cells cs t (0, 0)) → (w.setCells g o vs).heap[g]? = some (.cells (laidAt cs o vs) t (0, 0))
  | [], o, w, cs, h => h
  | v :: r, o, w, cs, h => setCells_laid r (o + 1) (blk_set h o v)
theorem below_cells {B g : Nat} {w0 : World} (hB : B ≤ g) : ∀ (vs : List Value) (o : Nat) {w : World}, Below B w0 w → Below B w0 (w.setCells g o vs)
  | [], o, w, h => h
  | v :: r, o, w, h => below_cells hB r (o + 1) (h.setCell (p := ⟨g, o, none⟩) hB v)
theorem infoD : (Try.prog.info? 54).map (fun i => (i.zero, i.size, i.bytes)) = some (some (.agg #[(.int .i64 0), (.string ⟨#[]⟩), (.slice none 0 0)]), 3, 48) := by kernel_rfl
theorem Both.set {α β : Type} {r : α → β → Prop} {a : α} {b : β} (hab : r a b) : ∀ {l : List α} {m : List β} (i : Nat), Both r l m → Both r (l.set i a) (m.set i b)
  | _, _, _, .nil => .nil
  | _, _, 0, .cons h1 h2 => .cons hab h2
  | _, _, i + 1, .cons h1 h2 => .cons h1 (Both.set hab i h2)
theorem DocAt.noint {w : World} {mb : Nat} {M : List (Int × Ses)} (h : DocAt w mb M) : NoInt w mb := by
  obtain ⟨v, R, h1, h2, h3⟩ := h
  obtain ⟨A, cap, rfl, _⟩ := ownD_slice h2
  exact noint_cells h1 (fun q i hi => by simp at hi)
theorem DocAt.lt {w : World} {mb : Nat} {M : List (Int × Ses)} (h : DocAt w mb M) : mb < w.heap.size := by
  obtain ⟨v, R, h1, h2, h3⟩ := h
  exact (Array.getElem?_eq_some_iff.1 h1).1
theorem ownD_keep {w w' : World} {B : Nat} {v : Value} {R : List RD} (h : OwnD B v R w) (hb : ∀ g, (∃ n c, v = .slice (some ⟨g, 0, none⟩) n c) → B ≤ g → g < w.heap.size → w'.heap[g]? = w.heap[g]?) : OwnD B v R w' := by
  obtain ⟨h1, ⟨e, h2⟩ | ⟨g, cap, cur, e, h2, h3, h4, h5, h6, h7⟩⟩ := h
  · exact ⟨h1, .inl ⟨e, h2⟩⟩
  · exact ⟨h1, .inr ⟨g, cap, cur, e, h2, (hb g ⟨_, _, e⟩ h2 (Array.getElem?_eq_some_iff.1 h3).1).trans h3, h4, h5, h6, h7⟩⟩
theorem DocAt.but {S : Nat → Prop} {w w' : World} {mb : Nat} {M : List (Int × Ses)} (h : DocAt w mb M) (k : ButS S w w') (h1 : ¬ S mb) (hS : ∀ i, S i → NoInt w i) (hS2 : ∀ i, S i → ∀ cs, w.heap[i]? ≠ some (.cells cs 54 (0, 0))) : DocAt w' mb M := by
  have hlt := h.lt
  obtain ⟨v, R, e1, e2, e3⟩ := h
  refine ⟨v, R, (k.block _ hlt h1).trans e1, ?_, e3.imp (fun a b q => q.but k hS)⟩
  obtain ⟨q1, ⟨e, q2⟩ | ⟨g, cap, cur, e, q2, q3, q4, q5, q6, q7⟩⟩ := e2
  · exact ⟨q1, .inl ⟨e, q2⟩⟩
  · exact ⟨q1, .inr ⟨g, cap, cur, e, q2, (k.block g (Array.getElem?_eq_some_iff.1 q3).1 (fun hs => hS2 g hs _ q3)).trans q3, q4, q5, q6, q7⟩⟩
theorem DocAt.below {w w' : World} {mb : Nat} {M : List (Int × Ses)} (h : DocAt w mb M) (k : Below w.heap.size w w') : DocAt w' mb M :=
  h.but (S := fun _ => False) (ButS.of k) (fun q => q) (fun _ q => q.elim) (fun _ q => q.elim)
theorem doc_put {w w3 : World} {mb B : Nat} {M M' : List (Int × Ses)} {v2 : Value} {R' : List RD} (h : DocAt w mb M) (hb : Below w.heap.size w w3) (ho : OwnD B v2 R' w3) (hB : w.heap.size ≤ B) (hR : Both (RDat w) R' M') :
    DocAt (w3.setCell ⟨mb, 0, none⟩ v2) mb M' ∧ ButS (· = mb) w (w3.setCell ⟨mb, 0, none⟩ v2) := by
  have hlt := h.lt
  have hno := h.noint
  have hbut : ButS (· = mb) w (w3.setCell ⟨mb, 0, none⟩ v2) := (ButS.of hb).trans (ButS.set v2 rfl)
  refine ⟨?_, hbut⟩
  obtain ⟨v, R, h1, h2, h3⟩ := h
  refine ⟨v2, R', ?_, ?_, hR.imp (fun a b q => q.but hbut (fun k hk => by rw [hk]; exact hno))⟩
  · have := blk_set ((hb.block mb hlt).trans h1) 0 v2
    exact this
  · refine ownD_base (ownD_keep ho (fun g _ hg _ => Below.heap_setCell w3 ⟨mb, 0, none⟩ v2 g (by show g ≠ mb; omega))) (Nat.zero_le _)
theorem ownD_set {w : World} {B : Nat} {v : Value} {R : List RD} {i : Nat} {r : RD} {g cap : Nat} {cur : Array Value} (e : v = .slice (some ⟨g, 0, none⟩) R.length cap) (h2 : B ≤ g) (h3 : w.heap[g]? = some (.cells cur 54 (0, 0))) (h4 : R.length ≤ cap) (h5 : cap ≤ maxLen) (h6 : cur.size = cap * 3) (h7 : ∀ (k : Nat) (u : Value), (dflat R)[k]? = some u → cur[k]? = some u) (hi : i < R.length) :
    OwnD B v (R.set i r) (w.setCells g (i * 3) (dcells r)) := by
  have hb := setCells_laid (dcells r) (i * 3) h3
  have hl : (R.set i r).length = R.length := List.length_set
  refine ⟨by rw [dflat_len], .inr ⟨g, cap, _, by rw [e, hl], h2, hb, by rw [hl]; exact h4, h5, by rw [laidAt_size]; exact h6, ?_⟩⟩
  have hf := dflat_len (R.set i r)
  rw [hl] at hf ⊢
  apply List.ext_getElem?
  intro k
  by_cases hk : k < R.length * 3
  · rw [List.getElem?_take_of_lt hk, Array.getElem?_toList]
    have hq : k / 3 < R.length := by omega
    by_cases c : k / 3 = i
    · have h8 := dflat_at (R.set i r) i r (by rw [List.getElem?_set, if_pos rfl, if_pos hi]) (k - i * 3)
      have hlen : (dcells r).length = 3 := rfl
      have h9 := h8 _ (List.getElem?_eq_getElem (by omega))
      have h10 := laidAt_at (dcells r) cur (i * 3) (k - i * 3) _ (by omega) (List.getElem?_eq_getElem (l := dcells r) (by omega))
      rw [show i * 3 + (k - i * 3) = k by omega] at h9 h10
      rw [h9, h10]
    · have hy := List.getElem?_eq_getElem hq
      have h8 := dflat_at (R.set i r) (k / 3) _ (by rw [List.getElem?_set, if_neg (fun q => c q.symm)]; exact hy) (k % 3)
      have h9 := dflat_at R (k / 3) _ hy (k % 3)
      have hlen : (dcells R[k / 3]).length = 3 := rfl
      have hm : k % 3 < 3 := Nat.mod_lt _ (by omega)
      have h10 := h8 _ (List.getElem?_eq_getElem (by omega))
      have h11 := h7 _ _ (h9 _ (List.getElem?_eq_getElem (by omega)))
      rw [show k / 3 * 3 + k % 3 = k by omega] at h10 h11
      have hl3 : (dcells r).length = 3 := rfl
      rw [h10, laidAt_other _ _ _ _ (by omega), h11]
  · rw [List.getElem?_eq_none (by rw [List.length_take]; omega), List.getElem?_eq_none (by omega)]
def rowV (r : RD) : Value := .agg #[.int .i64 r.n, .string r.br, .slice r.A r.len r.c]
set_option maxHeartbeats 4000000 in
theorem turn_any (mb : Nat) (M : List (Int × Ses)) (i : Nat) (r : RD) (p : Int × Ses) (w : World) (h : DocAt w mb M) (hi : i < M.length) (hr : RDat w r p) (hm : M.length ≤ 1000) :
    Calls Try.prog 35 #[.pointer (some ⟨mb, 0, none⟩), .int .i64 (i : Nat), rowV r] w fun e w' => e = .returned (.tuple #[]) ∧ DocAt w' mb (M.set i p) ∧ ButS (· = mb) w w' := by
  have H := Aside0.mk h
  obtain ⟨i0, hi0, hz0, hz1, hz2⟩ := info_parts infoD
  obtain ⟨v, R, h1, h2, h3⟩ := h
  have hlen := h3.len
  obtain ⟨g, cap, cur, rfl, _, k1, k2, k3, k4, k5⟩ : ∃ g cap cur, v = .slice (some ⟨g, 0, none⟩) R.length cap ∧ 0 ≤ g ∧ w.heap[g]? = some (.cells cur 54 (0, 0)) ∧ R.length ≤ cap ∧ cap ≤ maxLen ∧ cur.size = cap * 3 ∧ ∀ (k : Nat) (u : Value), (dflat R)[k]? = some u → cur[k]? = some u := by
    rcases ownD_cases h2 with ⟨_, rfl⟩ | h
    · simp at hlen; omega
    · exact h
  have HB := Aside0.mk ((Below.refl w.heap.size w).alloc (Nat.le_refl _) (.cells #[.int .i64 r.n, .string r.br, .slice r.A r.len r.c] 54))
  have HX := Aside0.mk (blk_new w (.cells #[.int .i64 r.n, .string r.br, .slice r.A r.len r.c] 54))
  have HG := Aside0.mk k1
  have HR := Aside0.mk k5
  have HMB := Aside0.mk h1
  have HBOTH := Aside0.mk (Both.set hr i h3)
  have HS := Aside0.mk (show R.length ≤ 1000 ∧ i < R.length ∧ mb < w.heap.size from ⟨by omega, by omega, H.out.lt⟩)
  have hu := Try.underlying28
  have hu2 := Try.underlying54
  have hcap : (R.length : Int) ≤ (cap : Int) := by omega
  unfold rowV
  clear h1 h2 h3 hlen k1 k2 k3 k4 k5 hi hr hm
  go_enter Try.func35, Try.ntmps35
  go_upto_region 1 with (fail)
  generalize (w.alloc (.cells #[.int .i64 r.n, .string r.br, .slice r.A r.len r.c] 54)) = W0 at *
  have HBE := Aside0.mk ((Below.refl W0.heap.size W0).alloc (Nat.le_refl _) (.cells #[] 54))
  have HBN := Aside0.mk (blk_new W0 (.cells #[] 54))
  have hmb1 : (W0.alloc (.cells #[] 54)).cell? ⟨mb, 0, none⟩ = some (.slice (some ⟨g, 0, none⟩) R.length cap) := blk_cell (blk_below (blk_below HMB.out HB.out) HBE.out) 0
  have HRD := Aside0.mk (show ∀ (k : Nat) (u : Value), (dflat R)[k]? = some u → (W0.alloc (.cells #[] 54)).cell? ((⟨g, 0, none⟩ : Addr).add k) = some u from fun k u hu => by
    rw [Addr.add_lit, blk_cell (blk_below (blk_below HG.out HB.out) HBE.out), Nat.zero_add]
    exact HR.out k u hu)
  go_upto_region 2 with (first | (at_builtin; refine wpList_append_own _ rfl (.tmp 7) (.tmp 11) 26 rfl W0.heap.size 54 i0 (.agg #[(.int .i64 0), (.string ⟨#[]⟩), (.slice none 0 0)]) 3 48 Try.underlying26 hi0 hz0 hz1 hz2 rfl (by decide) (.slice (some ⟨W0.heap.size, 0, none⟩) 0 0) 0 [] rfl ⟨rfl, .inr ⟨W0.heap.size, 0, #[], rfl, Nat.le_refl _, HBN.out, Nat.le_refl _, by decide, rfl, rfl⟩⟩ ⟨g, 0, none⟩ R.length cap (dflat R) rfl (dflat_len R) HRD.out (dflat_one R) (by have := HS.out.1; unfold maxLen; omega) (by have := HS.out.1; omega) HBE.out.size ?_; intro v2 w2 ho3 hg3 _))
  rw [Nat.zero_add, List.nil_append] at ho3
  have HB2 := Aside0.mk (HBE.out.grown hg3 HBE.out.size (fun q hq => by simp [Value.ownBlock] at hq; omega))
  obtain ⟨g2, cap2, cur2, rfl, m1, m2, m3, m4, m5, m6⟩ : ∃ g2 cap2 cur2, v2 = .slice (some ⟨g2, 0, none⟩) R.length cap2 ∧ W0.heap.size ≤ g2 ∧ w2.heap[g2]? = some (.cells cur2 54 (0, 0)) ∧ R.length ≤ cap2 ∧ cap2 ≤ maxLen ∧ cur2.size = cap2 * 3 ∧ ∀ (k : Nat) (u : Value), (dflat R)[k]? = some u → cur2[k]? = some u := by
    rcases ownD_cases (B := W0.heap.size) ho3 with ⟨_, e⟩ | h
    · have := HS.out.2.1
      rw [e] at this
      simp at this
    · exact h
  have HOS := Aside0.mk (ownD_set (B := W0.heap.size) (r := r) rfl m1 m2 m3 m4 m5 m6 HS.out.2.1)
  have hb4 : Below w.heap.size w (w2.setCells g2 (i * 3) (dcells r)) := below_cells (by have := HB.out.size; omega) (dcells r) (i * 3) (HB.out.trans (HB2.out.mono HB.out.size))
  have HFIN := Aside0.mk (doc_put H.out hb4 HOS.out HB.out.size HBOTH.out)
  have hx2 := blk_below HX.out HB2.out
  have x0 := blk_cell hx2 0
  have x1 := blk_cell hx2 1
  have x2 := blk_cell hx2 2
  have fz : ∀ j, w2.frozen? ⟨g2, j, none⟩ = false := fun j => blk_frozen m2 j
  have hy := List.getElem?_eq_getElem HS.out.2.1
  have s0 : w2.cell? ⟨g2, i * 3, none⟩ = _ := (blk_cell m2 (i * 3)).trans (m6 _ _ (dflat_at R i _ hy 0 _ rfl))
  have s1 : w2.cell? ⟨g2, i * 3 + 1, none⟩ = _ := (blk_cell m2 (i * 3 + 1)).trans (m6 _ _ (dflat_at R i _ hy 1 _ rfl))
  have s2 : w2.cell? ⟨g2, i * 3 + 2, none⟩ = _ := (blk_cell m2 (i * 3 + 2)).trans (m6 _ _ (dflat_at R i _ hy 2 _ rfl))
  have hmb2 := blk_below (blk_below HMB.out HB.out) HB2.out
  have n0 : w2.cell? ⟨mb, 0, none⟩ = some (.slice (some ⟨g, 0, none⟩) R.length cap) := blk_cell hmb2 0
  have n1 := blk_frozen hmb2 0
  have hne : g2 ≠ mb := by have := HB.out.size; have := HS.out.2.2; omega
  have hne2 : mb ≠ g2 := hne.symm
  have hi1 : (i : Int) < (R.length : Int) := by have := HS.out.2.1; omega
  have hi2 : i < R.length := HS.out.2.1
  clear ho3 hg3 m1 m2 m3 m4 m5 m6 hb4 hx2 hy hmb2 hmb1
  go_wp2_with fail
  go_end0
  exact ⟨rfl, HFIN.out.1, HFIN.out.2⟩
end Go.Proofs.Ytnbojemjaipnlaa.H
/-! ### BokU -/
namespace Go.Proofs.Ytnbojemjaipnlaa.H
open Go.RowKit Go.Proofs.Ytnbojemjaipnlaa.P Go.Proofs.YtnbojemjaipnlaaW.PrintWords Go.Proofs.YtnbojemjaipnlaaW.PrintLast Go.Proofs.YtnbojemjaipnlaaW.PrintMore
set_option linter.unusedVariables false
set_option linter.unusedSimpArgs false
set_option maxRecDepth 20000
theorem rise_split {α : Type} {M : List (Int × α)} (h : RiseK M) {i : Nat} {n : Int} {s : α} (hi : M[i]? = some (n, s)) : M = M.take i ++ (n, s) :: M.drop (i + 1) ∧ (∀ p ∈ M.take i, p.1 < n) ∧ ∀ p ∈ M.drop (i + 1), n < p.1 := by
  have hlt := (List.getElem?_eq_some_iff.1 hi).1
  have hg := (List.getElem?_eq_some_iff.1 hi).2
  have e : M = M.take i ++ (n, s) :: M.drop (i + 1) := by
    conv => lhs; rw [← List.take_append_drop i M, List.drop_eq_getElem_cons hlt, hg]
  refine ⟨e, ?_⟩
  rw [e] at h
  unfold RiseK at h
  rw [List.pairwise_append, List.pairwise_cons] at h
  exact ⟨fun p hp => h.2.2 p hp (n, s) (by simp), fun p hp => h.2.1.1 p hp⟩
theorem filter_allB {α : Type} {p : α → Bool} {l : List α} (h : ∀ x ∈ l, p x = true) : l.filter p = l := List.filter_eq_self.2 h
theorem filter_noB {α : Type} {p : α → Bool} {l : List α} (h : ∀ x ∈ l, p x = false) : l.filter p = [] := List.filter_eq_nil_iff.2 (fun x hx => by rw [h x hx]; simp)
theorem put_split {α : Type} {A B : List (Int × α)} {n : Int} {s x : α} (h1 : ∀ p ∈ A, p.1 < n) (h2 : ∀ p ∈ B, n < p.1) : putM (A ++ (n, s) :: B) n x = A ++ (n, x) :: B := by
  unfold putM
  rw [List.filter_append, List.filter_append, List.filter_cons, List.filter_cons, if_neg (by simp), if_neg (by simp),
    filter_allB (l := A) (fun p hp => by simpa using h1 p hp), filter_noB (l := B) (fun p hp => by have := h2 p hp; simp only [decide_eq_false_iff_not]; omega),
    filter_noB (l := A) (fun p hp => by have := h1 p hp; simp only [decide_eq_false_iff_not]; omega), filter_allB (l := B) (fun p hp => by simpa using h2 p hp)]
  simp
theorem put_set {α : Type} {M : List (Int × α)} (h : RiseK M) {i : Nat} {n : Int} {s : α} (hi : M[i]? = some (n, s)) (x : α) : M.set i (n, x) = putM M n x := by
  obtain ⟨e, h1, h2⟩ := rise_split h hi
  have hlt := (List.getElem?_eq_some_iff.1 hi).1
  have hl : (M.take i).length = i := by rw [List.length_take]; omega
  have e2 := put_split (s := s) (x := x) h1 h2
  rw [← e] at e2
  rw [e2]
  conv => lhs; rw [e]
  rw [List.set_append_right _ _ (by omega), hl, Nat.sub_self]
  rfl
theorem del_cut {α : Type} {M : List (Int × α)} (h : RiseK M) {i : Nat} {n : Int} {s : α} (hi : M[i]? = some (n, s)) : delM M n = M.take i ++ M.drop (i + 1) := by
  obtain ⟨e, h1, h2⟩ := rise_split h hi
  conv => lhs; rw [e]
  unfold delM
  rw [List.filter_append, List.filter_cons, if_neg (by simp), filter_allB (l := M.take i) (fun p hp => by have := h1 p hp; simp; omega), filter_allB (l := M.drop (i + 1)) (fun p hp => by have := h2 p hp; simp; omega)]
def DoesD (w : World) (mb : Nat) (M' : List (Int × Ses)) (v : Value) (e : Ending) (w' : World) : Prop := e = .returned v ∧ DocAt w' mb M' ∧ ButS (· = mb) w w'
theorem DoesD.same {w : World} {mb : Nat} {M : List (Int × Ses)} (h : DocAt w mb M) (v : Value) : DoesD w mb M v (.returned v) w := ⟨rfl, h, ButS.refl _ _⟩
set_option maxHeartbeats 4000000 in
theorem clearD_any (mb : Nat) (M : List (Int × Ses)) (n : Int) (w : World) (h : DocAt w mb M) (hm : M.length ≤ 1000) (hu : RiseK M) :
    Calls Try.prog 27 #[.pointer (some ⟨mb, 0, none⟩), .int .i64 n] w (DoesD w mb (clearM M n) (.int .i64 (errF (lookM M n)))) := by
  have hf := findD_any mb M n w h hm
  have hut := Try.underlying28
  have hut2 := Try.underlying54
  have H := Aside0.mk h
  unfold clearM
  rcases ixM_spec M n with ⟨e1, e2⟩ | ⟨i, s, e1, e2, e3⟩
  · rw [e1] at hf
    rw [e2]
    have HF := Aside0.mk hf
    clear hf h e1 e2 hu
    go_enter Try.func27, Try.ntmps27
    go_wp2_with fail
    refine HF.out.mono ?_
    rintro e w' ⟨rfl, rfl⟩
    go_wp2_with fail
    go_ret
    exact DoesD.same H.out _
  · rw [e1] at hf
    rw [e3]
    dsimp only
    rw [← put_set hu e2]
    obtain ⟨g, cap, A, c, x, hcap, hlt, x0, x1, x2, _, _⟩ := h.row e2
    have HF := Aside0.mk hf
    have HT := Aside0.mk (turn_any mb M i ⟨n, s.1, none, 0, 0⟩ (n, (s.1, [])) w h hlt ⟨rfl, rfl, rfl, Nat.le_refl _, ⟨rfl, by simp, fun h => absurd h (by simp)⟩⟩ hm)
    unfold rowV at HT
    clear hf h e1 e2 e3 hu
    go_enter Try.func27, Try.ntmps27
    go_wp2_with fail
    refine HF.out.mono ?_
    rintro e w' ⟨rfl, rfl⟩
    go_wp2_with fail
    refine HT.out.mono ?_
    rintro e w2 ⟨rfl, hd, hb⟩
    have HD := Aside0.mk hd
    have HB := Aside0.mk hb
    clear hd hb HT
    go_wp2_with fail
    go_ret
    exact ⟨rfl, HD.out, HB.out⟩
set_option maxHeartbeats 4000000 in
theorem switchD_any (mb : Nat) (M : List (Int × Ses)) (n : Int) (br : ByteArray) (w : World) (h : DocAt w mb M) (hm : M.length ≤ 1000) (hu : RiseK M) :
    Calls Try.prog 25 #[.pointer (some ⟨mb, 0, none⟩), .int .i64 n, .string br] w (DoesD w mb ((switchM M n br).1) (.int .i64 (switchM M n br).2)) := by
  have hf := findD_any mb M n w h hm
  have hut := Try.underlying28
  have hut2 := Try.underlying54
  have H := Aside0.mk h
  unfold switchM
  rcases ixM_spec M n with ⟨e1, e2⟩ | ⟨i, s, e1, e2, e3⟩
  · rw [e1] at hf
    rw [e2]
    have HF := Aside0.mk hf
    clear hf h e1 e2 hu
    go_enter Try.func25, Try.ntmps25
    go_wp2_with fail
    refine HF.out.mono ?_
    rintro e w' ⟨rfl, rfl⟩
    go_wp2_with fail
    go_ret
    exact DoesD.same H.out _
  · rw [e1] at hf
    rw [e3]
    dsimp only
    obtain ⟨g, cap, A, c, x, hcap, hlt, x0, x1, x2, hc, _⟩ := h.row e2
    have HF := Aside0.mk hf
    by_cases hp : 0 < s.2.length
    · rw [if_pos hp]
      have hpz : (0 : Int) < (s.2.length : Int) := by omega
      clear hf h e1 e2 e3 hu
      go_enter Try.func25, Try.ntmps25
      go_wp2_with fail
      refine HF.out.mono ?_
      rintro e w' ⟨rfl, rfl⟩
      go_wp2_with fail
      go_ret
      exact DoesD.same H.out _
    · rw [if_neg hp]
      dsimp only
      rw [← put_set hu e2]
      have hpz : ¬ (0 : Int) < (s.2.length : Int) := by omega
      have HT := Aside0.mk (turn_any mb M i ⟨n, br, none, 0, 0⟩ (n, (br, [])) w h hlt ⟨rfl, rfl, rfl, Nat.le_refl _, ⟨rfl, by simp, fun h => absurd h (by simp)⟩⟩ hm)
      unfold rowV at HT
      clear hf h e1 e2 e3 hu
      go_enter Try.func25, Try.ntmps25
      go_wp2_with fail
      refine HF.out.mono ?_
      rintro e w' ⟨rfl, rfl⟩
      go_wp2_with fail
      refine HT.out.mono ?_
      rintro e w2 ⟨rfl, hd, hb⟩
      have HD := Aside0.mk hd
      have HB := Aside0.mk hb
      clear hd hb HT
      go_wp2_with fail
      go_ret
      exact ⟨rfl, HD.out, HB.out⟩
end Go.Proofs.Ytnbojemjaipnlaa.H
