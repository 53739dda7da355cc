/- OpenW, Bol5, Bol6. -/
import Derived.Test.YtnbojemjaipnlaaEOpen2
import Derived.SizedLaws
import Derived.Test.YtnbojemjaipnlaaEBol4
/-! ### OpenW -/
namespace Go.Proofs.Ytnbojemjaipnlaa.Open
open Go.RowKit Go.Proofs.YtnbojemjaipnlaaW.PrintWords Go.Proofs.YtnbojemjaipnlaaW.PrintLast
set_option linter.unusedVariables false
set_option linter.unusedSimpArgs false
structure OpensW (P : Program) (t : TypeId) {α : Type} (K : Kd α) (I : α → Prop) : Prop where
  out : ∀ {H : Type} (enc : TypeId × Value → H) (w : World) (base : Nat) (spare : Nat → Bool) (held : Bool) (fuel : Nat) (cs : List Value) (y : DataW H × List MemPlace),
    DataW.trod enc P w base spare held fuel t cs = some y → (∀ n ∈ y.1.weights P t, n ≤ 140737488351232) → ∃ x, K.K w x cs ∧ I x
theorem OpensW.slice {P : Program} {t e : TypeId} {α : Type} {K : Kd α} {I : List α → Prop} {B : Nat} (ht : P.underlying t = some (.slice e)) (h : Opens P t (Kd.slice e K) I) (hB : P.bytesOf e = B) :
    OpensW P t (Kd.slice e K) (fun l => I l ∧ l.length * B ≤ 140737488351232) := by
  refine ⟨?_⟩
  intro H enc w base spare held fuel cs y hy hw
  obtain ⟨l, hK, hI⟩ := h.out enc w base spare held fuel cs y hy
  refine ⟨l, hK, hI, ?_⟩
  obtain ⟨A, c, rfl, hlc, hC⟩ := hK
  cases fuel with
  | zero => simp [DataW.trod] at hy
  | succ m =>
    unfold DataW.trod at hy
    rw [ht] at hy
    split at hy <;> first | (rename_i h1; cases h1; done) | skip
    all_goals first | (rename_i h1 h2; cases h1; done) | skip
    · rename_i e' h1
      simp at h1
      rw [h1.2.1]
      simp
    · rename_i e' a len cap h1
      cases h1
      dsimp only at hy
      split at hy
      · rename_i hb h2
        obtain ⟨elems, hel, hrest⟩ := Option.bind_eq_some_iff.1 hy
        obtain ⟨hl, hx⟩ := mapM_some hel
        obtain ⟨rest, _, rfl⟩ := Option.map_eq_some_iff.1 hrest
        cases cap
        have h3 := hw ((elems.length + rest.length) * P.bytesOf e) (by
          simp only [DataW.weights, ht, List.length_map]
          exact List.mem_cons_self ..)
        rw [hB] at h3
        rw [List.length_range] at hl
        refine Nat.le_trans (Nat.mul_le_mul_right B ?_) h3
        omega
      · cases hy
    · cases hy
structure OpensWAt (P : Program) (off : Nat) (fs : List Field) {α : Type} (K : Kd α) (I : α → Prop) : Prop where
  out : ∀ {H : Type} (enc : TypeId × Value → H) (w : World) (base : Nat) (spare : Nat → Bool) (held : Bool) (n : Nat) (cs : List Value), cs.length = off + K.sz →
    (∀ f ∈ fs, ∃ y : DataW H × List MemPlace, DataW.trod enc P w base spare held n f.type ((cs.drop f.offset).take (P.cellsOf f.type)) = some y ∧ ∀ m ∈ y.1.weights P f.type, m ≤ 140737488351232) → ∃ x, K.K w x (cs.drop off) ∧ I x
theorem OpensWAt.last {P : Program} {off : Nat} {f : Field} {α : Type} {K : Kd α} {I : α → Prop} (ho : f.offset = off) (hK : OpensW P f.type K I) (hsz : P.cellsOf f.type = K.sz) : OpensWAt P off [f] K I := by
  refine ⟨?_⟩
  intro H enc w base spare held n cs hl hf
  obtain ⟨y, hy, hw⟩ := hf f (List.mem_singleton.2 rfl)
  rw [ho, hsz, List.take_of_length_le (by rw [List.length_drop]; omega)] at hy
  exact hK.out enc w base spare held n _ _ hy hw
theorem OpensWAt.cons {P : Program} {off : Nat} {f : Field} {fs : List Field} {α β : Type} {K : Kd α} {I : α → Prop} {K' : Kd β} {I' : β → Prop} (ho : f.offset = off) (hK : OpensW P f.type K I) (hsz : P.cellsOf f.type = K.sz)
    (hfs : OpensWAt P (off + K.sz) fs K' I') : OpensWAt P off (f :: fs) (Kd.pair K K') (fun x => I x.1 ∧ I' x.2) := by
  refine ⟨?_⟩
  intro H enc w base spare held n cs hl hf
  obtain ⟨y, hy, hw⟩ := hf f (List.mem_cons_self ..)
  rw [ho, hsz] at hy
  obtain ⟨x, hx, ix⟩ := hK.out enc w base spare held n _ _ hy hw
  have hl' : cs.length = off + (K.sz + K'.sz) := hl
  obtain ⟨x', hx', ix'⟩ := hfs.out enc w base spare held n cs (by omega) fun g hg => hf g (List.mem_cons_of_mem _ hg)
  refine ⟨(x, x'), ⟨_, _, ?_, hx, hx'⟩, ix, ix'⟩
  rw [← List.drop_drop, List.take_append_drop]
theorem OpensWAt.struct {P : Program} {t : TypeId} {fs : List Field} {α : Type} {K : Kd α} {I : α → Prop} (h : OpensWAt P 0 fs K I) (ht : P.underlying t = some (.struct fs.toArray)) (hsz : P.cellsOf t = K.sz) : OpensW P t K I := by
  refine ⟨?_⟩
  intro H enc w base spare held fuel cs y hy hw
  obtain ⟨xs, n, _, rfl, hl, hlen, hf⟩ := DataW.trod_struct ht hy
  have := h.out enc w base spare held n cs (by omega) fun f hf' => by
    obtain ⟨i, hi⟩ := List.mem_iff_getElem?.1 hf'
    have hi' : fs.toArray[i]? = some f := by simpa using hi
    have hil : i < xs.length := by
      have := (Array.getElem?_eq_some_iff.1 hi').1
      omega
    refine ⟨xs[i], (hf i f hi').trans (List.getElem?_eq_getElem hil), fun m hm => ?_⟩
    refine hw m ?_
    simp only [DataW.weights, ht]
    exact DataW.weights_mem_each (j := i) (t := f.type) (d := xs[i].1) (by simp [hi]) (by simp [List.getElem?_eq_getElem hil]) m hm
  exact this
theorem OpensW.iso {P : Program} {t : TypeId} {α β : Type} {K : Kd α} {I : α → Prop} (f : β → α) (g : α → β) (hfg : ∀ x, f (g x) = x) (h : OpensW P t K I) : OpensW P t (Kd.iso K f) (fun y => I (f y)) := by
  refine ⟨?_⟩
  intro H enc w base spare held fuel cs y hy hw
  obtain ⟨x, hx, ix⟩ := h.out enc w base spare held fuel cs y hy hw
  exact ⟨g x, (by show K.K w (f (g x)) cs; rw [hfg]; exact hx), by show I (f (g x)); rw [hfg]; exact ix⟩
theorem OpensW.imp {P : Program} {t : TypeId} {α : Type} {K : Kd α} {I J : α → Prop} (h : OpensW P t K I) (hIJ : ∀ x, I x → J x) : OpensW P t K J := by
  refine ⟨?_⟩
  intro H enc w base spare held fuel cs y hy hw
  obtain ⟨x, hx, ix⟩ := h.out enc w base spare held fuel cs y hy hw
  exact ⟨x, hx, hIJ x ix⟩
theorem sized_arg {H : Type} {P : Program} {ts : List TypeId} {ds : List (DataW H)} (h : (DataW.weightsEach P ts ds).all (· ≤ reachBytes) = true) {j : Nat} {t : TypeId} {d : DataW H} (ht : ts[j]? = some t) (hd : ds[j]? = some d) : ∀ n ∈ d.weights P t, n ≤ 140737488351232 := by
  intro n hn
  have h1 := List.all_eq_true.1 h n (DataW.weights_mem_each ht hd n hn)
  exact of_decide_eq_true h1
end Go.Proofs.Ytnbojemjaipnlaa.Open
/-! ### Bol5 -/
namespace Go.Proofs.Ytnbojemjaipnlaa.H
open Go.RowKit Go.Proofs.Ytnbojemjaipnlaa.P Go.Proofs.Ytnbojemjaipnlaa.Open Go.Proofs.YtnbojemjaipnlaaW.PrintWords Go.Proofs.YtnbojemjaipnlaaW.PrintLast
set_option linter.unusedVariables false
set_option linter.unusedSimpArgs false
theorem wf_i64 {x : Int} (h : (Lit.int .i64 x).wf = true) : i64 x := by
  simp only [Lit.wf, Bool.and_eq_true, decide_eq_true_eq] at h
  have e3 : IntKind.i64.min = -9223372036854775808 := rfl
  have e4 : IntKind.i64.max = 9223372036854775807 := rfl
  unfold i64
  omega
theorem opensRange : Opens Try.prog 33 k33 (fun _ => True) := by
  refine' Opens.imp (Opens.iso (fun x : S33 => (x.f0, x.f1)) (fun y => ⟨y.1, y.2⟩) (fun _ => rfl) (OpensAt.struct' ?h Try.underlying33 (by kernel_rfl))) ?i
  case h => exact OpensAt.cons rfl (Opens.int Try.underlying31) (by kernel_rfl) (OpensAt.last rfl (Opens.int Try.underlying31) (by kernel_rfl))
  case i => exact fun x h => trivial
theorem opensRule : Opens Try.prog 35 k35 (fun r => i64 r.f0) := by
  refine' Opens.imp (Opens.iso (fun x : S35 => (x.f0, x.f1, x.f2, x.f3, x.f4, x.f5)) (fun y => ⟨y.1, y.2.1, y.2.2.1, y.2.2.2.1, y.2.2.2.2.1, y.2.2.2.2.2⟩) (fun _ => rfl) (OpensAt.struct' ?h Try.underlying35 (by kernel_rfl))) ?i
  case h => exact OpensAt.cons rfl (Opens.int Try.underlying3) (by kernel_rfl) (OpensAt.cons rfl (Opens.int Try.underlying3) (by kernel_rfl) (OpensAt.cons rfl (Opens.int Try.underlying3) (by kernel_rfl) (OpensAt.cons rfl (Opens.int Try.underlying30) (by kernel_rfl) (OpensAt.cons rfl opensRange (by kernel_rfl) (OpensAt.last rfl (Opens.int Try.underlying3) (by kernel_rfl))))))
  case i => exact fun x h => wf_i64 h.1
theorem opensEdit : Opens Try.prog 37 k37 (fun e => i64 e.f1.f0) := by
  refine' Opens.imp (Opens.iso (fun x : S37 => (x.f0, x.f1)) (fun y => ⟨y.1, y.2⟩) (fun _ => rfl) (OpensAt.struct' ?h Try.underlying37 (by kernel_rfl))) ?i
  case h => exact OpensAt.cons rfl (Opens.int Try.underlying29) (by kernel_rfl) (OpensAt.last rfl opensRule (by kernel_rfl))
  case i => exact fun x h => h.2
theorem opensAct : Opens Try.prog 39 kAct (fun a => i64 a.n) := by
  refine' Opens.imp (Opens.iso (fun x : ActR => (x.k, x.n, x.nm, x.e)) (fun y => ⟨y.1, y.2.1, y.2.2.1, y.2.2.2⟩) (fun _ => rfl) (OpensAt.struct' ?h Try.underlying39 (by kernel_rfl))) ?i
  case h => exact OpensAt.cons rfl (Opens.int Try.underlying3) (by kernel_rfl) (OpensAt.cons rfl (Opens.int Try.underlying3) (by kernel_rfl) (OpensAt.cons rfl (Opens.string Try.underlying9) (by kernel_rfl) (OpensAt.last rfl opensEdit (by kernel_rfl))))
  case i => exact fun x h => wf_i64 h.2.1
theorem opensActs : OpensW Try.prog 22 (Kd.slice 39 kAct) (fun l => (∀ a ∈ l, i64 a.n) ∧ l.length * 88 ≤ 140737488355328) := by
  refine' OpensW.imp (OpensW.slice (B := 88) Try.underlying22 (Opens.slice Try.underlying22 opensAct (by kernel_rfl)) (by kernel_rfl)) ?i
  case i => exact fun x h => ⟨h.1, by have := h.2; omega⟩
end Go.Proofs.Ytnbojemjaipnlaa.H
/-! ### Bol6 -/
namespace Go.Proofs.Ytnbojemjaipnlaa.H
open Go.RowKit Go.Proofs.Ytnbojemjaipnlaa.P Go.Proofs.YtnbojemjaipnlaaW.PrintWords Go.Proofs.YtnbojemjaipnlaaW.PrintLast Go.Proofs.YtnbojemjaipnlaaW.PrintMore
set_option linter.unusedVariables false
set_option linter.unusedSimpArgs false
set_option maxRecDepth 20000
theorem look_append {α : Type} (A B : List (Int × α)) (k : Int) : lookM (A ++ B) k = (lookM A k).or (lookM B k) := by
  unfold lookM
  rw [List.find?_append]
  cases List.find? (fun p => p.1 == k) A <;> rfl
theorem look_filter_lt {α : Type} (M : List (Int × α)) (n k : Int) : lookM (M.filter (fun p => decide (p.1 < n))) k = if k < n then lookM M k else none := by
  induction M with
  | nil => simp [lookM]
  | cons p M ih =>
    obtain ⟨a, v⟩ := p
    rw [List.filter_cons, lookM_cons]
    by_cases c : a < n
    · rw [if_pos (by simpa using c), lookM_cons, ih]
      by_cases e : a = k
      · subst e; simp [c]
      · simp [e]
    · rw [if_neg (by simpa using c), ih]
      by_cases e : a = k
      · subst e; simp [c]
      · simp [e]
theorem look_filter_gt {α : Type} (M : List (Int × α)) (n k : Int) : lookM (M.filter (fun p => decide (n < p.1))) k = if n < k then lookM M k else none := by
  induction M with
  | nil => simp [lookM]
  | cons p M ih =>
    obtain ⟨a, v⟩ := p
    rw [List.filter_cons, lookM_cons]
    by_cases c : n < a
    · rw [if_pos (by simpa using c), lookM_cons, ih]
      by_cases e : a = k
      · subst e; simp [c]
      · simp [e]
    · rw [if_neg (by simpa using c), ih]
      by_cases e : a = k
      · subst e; simp [c]
      · simp [e]
theorem look_put_ne {α : Type} (M : List (Int × α)) {n k : Int} (x : α) (h : k ≠ n) : lookM (putM M n x) k = lookM M k := by
  unfold putM
  rw [look_append, lookM_cons, if_neg (fun e => h e.symm), look_filter_lt, look_filter_gt]
  by_cases c : k < n
  · rw [if_pos c, if_neg (by omega)]
    cases lookM M k <;> rfl
  · rw [if_neg c, if_pos (by omega)]
    rfl
theorem do_other (M : List (Int × Ses)) (a : ActR) (h1 : a.k ≠ 1) {k : Int} (h : k ≠ a.n) : lookM (doM M a) k = lookM M k := by
  unfold doM
  rw [if_neg h1]
  split
  · unfold closeM
    cases lookM M a.n with
    | none => rfl
    | some s => exact look_del M h
  · split
    · unfold switchM
      cases lookM M a.n with
      | none => rfl
      | some s =>
        dsimp only
        split
        · rfl
        · exact look_put_ne M _ h
    · split
      · unfold stageM
        cases lookM M a.n with
        | none => rfl
        | some s =>
          dsimp only
          split
          · rfl
          · exact look_put_ne M _ h
      · split
        · unfold clearM
          cases lookM M a.n with
          | none => rfl
          | some s => exact look_put_ne M _ h
        · rfl
theorem look_place {M : List (Int × Ses)} {n : Int} {s : Ses} (h : lookM M n = some s) : ∃ i : Nat, M[i]? = some (n, s) := List.getElem?_of_mem (look_mem h)
theorem put_len {M : List (Int × Ses)} (hu : RiseK M) {n : Int} {s : Ses} (h : lookM M n = some s) (x : Ses) : (putM M n x).length = M.length := by
  obtain ⟨i, hi⟩ := look_place h
  rw [← put_set hu hi x, List.length_set]
theorem del_len {M : List (Int × Ses)} (hu : RiseK M) {n : Int} {s : Ses} (h : lookM M n = some s) : (delM M n).length + 1 = M.length := by
  obtain ⟨i, hi⟩ := look_place h
  have := (List.getElem?_eq_some_iff.1 hi).1
  rw [del_cut hu hi, List.length_append, List.length_take, List.length_drop]
  omega
def cntM (M : List (Int × Ses)) (n : Int) (j : Nat) : Nat := ((M.take j).filter (fun p => p.1 == n)).length
theorem cnt_le (M : List (Int × Ses)) (n : Int) (j : Nat) : cntM M n j ≤ j := Nat.le_trans (List.length_filter_le _ _) (by rw [List.length_take]; omega)
theorem takeM_snoc {M : List (Int × Ses)} {j : Nat} {y : Int × Ses} (h : M[j]? = some y) : M.take (j + 1) = M.take j ++ [y] := by rw [List.take_add_one, h]; rfl
theorem cnt_in {M : List (Int × Ses)} {n : Int} {j : Nat} {y : Int × Ses} (h : M[j]? = some y) (c : y.1 = n) : cntM M n (j + 1) = cntM M n j + 1 := by
  unfold cntM
  rw [takeM_snoc h, List.filter_append, List.length_append]
  simp [c]
theorem cnt_out {M : List (Int × Ses)} {n : Int} {j : Nat} {y : Int × Ses} (h : M[j]? = some y) (c : ¬ y.1 = n) : cntM M n (j + 1) = cntM M n j := by
  unfold cntM
  rw [takeM_snoc h, List.filter_append, List.length_append]
  simp [c]
theorem cnt_all {M : List (Int × Ses)} (n : Int) : cntM M n M.length + (delM M n).length = M.length := by
  unfold cntM delM
  rw [List.take_length]
  induction M with
  | nil => rfl
  | cons p M ih =>
    rw [List.filter_cons, List.filter_cons]
    by_cases c : p.1 = n
    · simp [c] at ih ⊢
      omega
    · simp [c] at ih ⊢
      omega
theorem do_len {M : List (Int × Ses)} (hu : RiseK M) (a : ActR) (h1 : a.k ≠ 1) : (doM M a).length = M.length ∨ (a.k = 2 ∧ cntM M a.n M.length = 1 ∧ (doM M a).length + 1 = M.length) := by
  have hc := cnt_all (M := M) a.n
  unfold doM
  rw [if_neg h1]
  split
  · next h2 =>
    unfold closeM
    cases hl : lookM M a.n with
    | none => exact .inl rfl
    | some s =>
      have := del_len hu hl
      exact .inr ⟨h2, by omega, this⟩
  · left
    split
    · unfold switchM
      cases hl : lookM M a.n with
      | none => rfl
      | some s =>
        dsimp only
        split
        · rfl
        · exact put_len hu hl _
    · split
      · unfold stageM
        cases hl : lookM M a.n with
        | none => rfl
        | some s =>
          dsimp only
          split
          · rfl
          · exact put_len hu hl _
      · split
        · unfold clearM
          cases hl : lookM M a.n with
          | none => rfl
          | some s => exact put_len hu hl _
        · rfl
theorem doc_far {w w' : World} {hb g mb nb : Nat} {M N K : List (Int × Ses)} (h : BookAt w hb g M) (k : DocAt w mb N) (d : DocAt w nb K) (hne : nb ≠ mb) (u : ButS (fun k => k = g ∨ k = mb) w w') : DocAt w' nb K := by
  have hg := (doc_ne h d).2
  refine d.but u (fun q => by rcases q with q | q; exact hg q; exact hne q) (fun i hi => ?_) (fun i hi cs => ?_)
  · rcases hi with rfl | rfl
    · exact h.noint
    · exact k.noint
  · rcases hi with rfl | rfl
    · exact h.map cs _ _
    · exact k.block cs
end Go.Proofs.Ytnbojemjaipnlaa.H
