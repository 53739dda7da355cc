/- OpenW, Bol5. -/
import Derived.Test.YtnbojemjaipnlaaDOpen
import Derived.SizedLaws
import Derived.Test.YtnbojemjaipnlaaDBol4
/-! ### OpenW -/
namespace Go.Proofs.Ytnbojemjaipnlaa.Open
open Go.RowKit Go.Proofs.YtnbojemjaipnlaaW.PrintWords Go.Proofs.YtnbojemjaipnlaaW.PrintLast
set_option linter.unusedVariables false
set_option linter.unusedSimpArgs false
structure OpensW (P : Program) (t : TypeId) {α : Type} (K : Kd α) (I : α → Prop) : Prop where
  out : ∀ {H : Type} (enc : TypeId × Value → H) (w : World) (base : Nat) (spare : Nat → Bool) (held : Bool) (fuel : Nat) (cs : List Value) (y : DataW H × List MemPlace),
    DataW.trod enc P w base spare held fuel t cs = some y → (∀ n ∈ y.1.weights P t, n ≤ 140737488351232) → ∃ x, K.K w x cs ∧ I x
theorem OpensW.slice {P : Program} {t e : TypeId} {α : Type} {K : Kd α} {I : List α → Prop} {B : Nat} (ht : P.underlying t = some (.slice e)) (h : Opens P t (Kd.slice e K) I) (hB : P.bytesOf e = B) :
    OpensW P t (Kd.slice e K) (fun l => I l ∧ l.length * B ≤ 140737488351232) := by
  refine ⟨?_⟩
  intro H enc w base spare held fuel cs y hy hw
  obtain ⟨l, hK, hI⟩ := h.out enc w base spare held fuel cs y hy
  refine ⟨l, hK, hI, ?_⟩
  obtain ⟨A, c, rfl, hlc, hC⟩ := hK
  cases fuel with
  | zero => simp [DataW.trod] at hy
  | succ m =>
    unfold DataW.trod at hy
    rw [ht] at hy
    split at hy <;> first | (rename_i h1; cases h1; done) | skip
    all_goals first | (rename_i h1 h2; cases h1; done) | skip
    · rename_i e' h1
      simp at h1
      rw [h1.2.1]
      simp
    · rename_i e' a len cap h1
      cases h1
      dsimp only at hy
      split at hy
      · rename_i hb h2
        obtain ⟨elems, hel, hrest⟩ := Option.bind_eq_some_iff.1 hy
        obtain ⟨hl, hx⟩ := mapM_some hel
        obtain ⟨rest, _, rfl⟩ := Option.map_eq_some_iff.1 hrest
        cases cap
        have h3 := hw ((elems.length + rest.length) * P.bytesOf e) (by
          simp only [DataW.weights, ht, List.length_map]
          exact List.mem_cons_self ..)
        rw [hB] at h3
        rw [List.length_range] at hl
        refine Nat.le_trans (Nat.mul_le_mul_right B ?_) h3
        omega
      · cases hy
    · cases hy
structure OpensWAt (P : Program) (off : Nat) (fs : List Field) {α : Type} (K : Kd α) (I : α → Prop) : Prop where
  out : ∀ {H : Type} (enc : TypeId × Value → H) (w : World) (base : Nat) (spare : Nat → Bool) (held : Bool) (n : Nat) (cs : List Value), cs.length = off + K.sz →
    (∀ f ∈ fs, ∃ y : DataW H × List MemPlace, DataW.trod enc P w base spare held n f.type ((cs.drop f.offset).take (P.cellsOf f.type)) = some y ∧ ∀ m ∈ y.1.weights P f.type, m ≤ 140737488351232) → ∃ x, K.K w x (cs.drop off) ∧ I x
theorem OpensWAt.last {P : Program} {off : Nat} {f : Field} {α : Type} {K : Kd α} {I : α → Prop} (ho : f.offset = off) (hK : OpensW P f.type K I) (hsz : P.cellsOf f.type = K.sz) : OpensWAt P off [f] K I := by
  refine ⟨?_⟩
  intro H enc w base spare held n cs hl hf
  obtain ⟨y, hy, hw⟩ := hf f (List.mem_singleton.2 rfl)
  rw [ho, hsz, List.take_of_length_le (by rw [List.length_drop]; omega)] at hy
  exact hK.out enc w base spare held n _ _ hy hw
theorem OpensWAt.cons {P : Program} {off : Nat} {f : Field} {fs : List Field} {α β : Type} {K : Kd α} {I : α → Prop} {K' : Kd β} {I' : β → Prop} (ho : f.offset = off) (hK : OpensW P f.type K I) (hsz : P.cellsOf f.type = K.sz)
    (hfs : OpensWAt P (off + K.sz) fs K' I') : OpensWAt P off (f :: fs) (Kd.pair K K') (fun x => I x.1 ∧ I' x.2) := by
  refine ⟨?_⟩
  intro H enc w base spare held n cs hl hf
  obtain ⟨y, hy, hw⟩ := hf f (List.mem_cons_self ..)
  rw [ho, hsz] at hy
  obtain ⟨x, hx, ix⟩ := hK.out enc w base spare held n _ _ hy hw
  have hl' : cs.length = off + (K.sz + K'.sz) := hl
  obtain ⟨x', hx', ix'⟩ := hfs.out enc w base spare held n cs (by omega) fun g hg => hf g (List.mem_cons_of_mem _ hg)
  refine ⟨(x, x'), ⟨_, _, ?_, hx, hx'⟩, ix, ix'⟩
  rw [← List.drop_drop, List.take_append_drop]
theorem OpensWAt.struct {P : Program} {t : TypeId} {fs : List Field} {α : Type} {K : Kd α} {I : α → Prop} (h : OpensWAt P 0 fs K I) (ht : P.underlying t = some (.struct fs.toArray)) (hsz : P.cellsOf t = K.sz) : OpensW P t K I := by
  refine ⟨?_⟩
  intro H enc w base spare held fuel cs y hy hw
  obtain ⟨xs, n, _, rfl, hl, hlen, hf⟩ := DataW.trod_struct ht hy
  have := h.out enc w base spare held n cs (by omega) fun f hf' => by
    obtain ⟨i, hi⟩ := List.mem_iff_getElem?.1 hf'
    have hi' : fs.toArray[i]? = some f := by simpa using hi
    have hil : i < xs.length := by
      have := (Array.getElem?_eq_some_iff.1 hi').1
      omega
    refine ⟨xs[i], (hf i f hi').trans (List.getElem?_eq_getElem hil), fun m hm => ?_⟩
    refine hw m ?_
    simp only [DataW.weights, ht]
    exact DataW.weights_mem_each (j := i) (t := f.type) (d := xs[i].1) (by simp [hi]) (by simp [List.getElem?_eq_getElem hil]) m hm
  exact this
theorem OpensW.iso {P : Program} {t : TypeId} {α β : Type} {K : Kd α} {I : α → Prop} (f : β → α) (g : α → β) (hfg : ∀ x, f (g x) = x) (h : OpensW P t K I) : OpensW P t (Kd.iso K f) (fun y => I (f y)) := by
  refine ⟨?_⟩
  intro H enc w base spare held fuel cs y hy hw
  obtain ⟨x, hx, ix⟩ := h.out enc w base spare held fuel cs y hy hw
  exact ⟨g x, (by show K.K w (f (g x)) cs; rw [hfg]; exact hx), by show I (f (g x)); rw [hfg]; exact ix⟩
theorem OpensW.imp {P : Program} {t : TypeId} {α : Type} {K : Kd α} {I J : α → Prop} (h : OpensW P t K I) (hIJ : ∀ x, I x → J x) : OpensW P t K J := by
  refine ⟨?_⟩
  intro H enc w base spare held fuel cs y hy hw
  obtain ⟨x, hx, ix⟩ := h.out enc w base spare held fuel cs y hy hw
  exact ⟨x, hx, hIJ x ix⟩
theorem sized_arg {H : Type} {P : Program} {ts : List TypeId} {ds : List (DataW H)} (h : (DataW.weightsEach P ts ds).all (· ≤ reachBytes) = true) {j : Nat} {t : TypeId} {d : DataW H} (ht : ts[j]? = some t) (hd : ds[j]? = some d) : ∀ n ∈ d.weights P t, n ≤ 140737488351232 := by
  intro n hn
  have h1 := List.all_eq_true.1 h n (DataW.weights_mem_each ht hd n hn)
  exact of_decide_eq_true h1
end Go.Proofs.Ytnbojemjaipnlaa.Open
/-! ### Bol5 -/
namespace Go.Proofs.Ytnbojemjaipnlaa.H
open Go.RowKit Go.Proofs.Ytnbojemjaipnlaa.P Go.Proofs.Ytnbojemjaipnlaa.Open Go.Proofs.YtnbojemjaipnlaaW.PrintWords Go.Proofs.YtnbojemjaipnlaaW.PrintLast
set_option linter.unusedVariables false
set_option linter.unusedSimpArgs false
theorem wf_i64 {x : Int} (h : (Lit.int .i64 x).wf = true) : i64 x := by
  simp only [Lit.wf, Bool.and_eq_true, decide_eq_true_eq] at h
  have e3 : IntKind.i64.min = -9223372036854775808 := rfl
  have e4 : IntKind.i64.max = 9223372036854775807 := rfl
  unfold i64
  omega
theorem opensRange : Opens Try.prog 33 k33 (fun _ => True) := by
  refine' Opens.imp (Opens.iso (fun x : S33 => (x.f0, x.f1)) (fun y => ⟨y.1, y.2⟩) (fun _ => rfl) (OpensAt.struct' ?h Try.underlying33 (by kernel_rfl))) ?i
  case h => exact OpensAt.cons rfl (Opens.int Try.underlying31) (by kernel_rfl) (OpensAt.last rfl (Opens.int Try.underlying31) (by kernel_rfl))
  case i => exact fun x h => trivial
theorem opensRule : Opens Try.prog 35 k35 (fun r => i64 r.f0) := by
  refine' Opens.imp (Opens.iso (fun x : S35 => (x.f0, x.f1, x.f2, x.f3, x.f4, x.f5)) (fun y => ⟨y.1, y.2.1, y.2.2.1, y.2.2.2.1, y.2.2.2.2.1, y.2.2.2.2.2⟩) (fun _ => rfl) (OpensAt.struct' ?h Try.underlying35 (by kernel_rfl))) ?i
  case h => exact OpensAt.cons rfl (Opens.int Try.underlying3) (by kernel_rfl) (OpensAt.cons rfl (Opens.int Try.underlying3) (by kernel_rfl) (OpensAt.cons rfl (Opens.int Try.underlying3) (by kernel_rfl) (OpensAt.cons rfl (Opens.int Try.underlying30) (by kernel_rfl) (OpensAt.cons rfl opensRange (by kernel_rfl) (OpensAt.last rfl (Opens.int Try.underlying3) (by kernel_rfl))))))
  case i => exact fun x h => wf_i64 h.1
theorem opensEdit : Opens Try.prog 37 k37 (fun e => i64 e.f1.f0) := by
  refine' Opens.imp (Opens.iso (fun x : S37 => (x.f0, x.f1)) (fun y => ⟨y.1, y.2⟩) (fun _ => rfl) (OpensAt.struct' ?h Try.underlying37 (by kernel_rfl))) ?i
  case h => exact OpensAt.cons rfl (Opens.int Try.underlying29) (by kernel_rfl) (OpensAt.last rfl opensRule (by kernel_rfl))
  case i => exact fun x h => h.2
theorem opensAct : Opens Try.prog 39 kAct (fun a => i64 a.n) := by
  refine' Opens.imp (Opens.iso (fun x : ActR => (x.k, x.n, x.nm, x.e)) (fun y => ⟨y.1, y.2.1, y.2.2.1, y.2.2.2⟩) (fun _ => rfl) (OpensAt.struct' ?h Try.underlying39 (by kernel_rfl))) ?i
  case h => exact OpensAt.cons rfl (Opens.int Try.underlying3) (by kernel_rfl) (OpensAt.cons rfl (Opens.int Try.underlying3) (by kernel_rfl) (OpensAt.cons rfl (Opens.string Try.underlying9) (by kernel_rfl) (OpensAt.last rfl opensEdit (by kernel_rfl))))
  case i => exact fun x h => wf_i64 h.2.1
theorem opensActs : OpensW Try.prog 22 (Kd.slice 39 kAct) (fun l => (∀ a ∈ l, i64 a.n) ∧ l.length * 88 ≤ 140737488355328) := by
  refine' OpensW.imp (OpensW.slice (B := 88) Try.underlying22 (Opens.slice Try.underlying22 opensAct (by kernel_rfl)) (by kernel_rfl)) ?i
  case i => exact fun x h => ⟨h.1, by have := h.2; omega⟩
theorem bookPlays_row (A : Option Addr) (c : Nat) (L : List ActR) (n : Int) (w : World) (hr : Kd.C kAct w A L.length L) (hc : L.length ≤ c) (hi : (∀ a ∈ L, i64 a.n) ∧ L.length * 88 ≤ 140737488355328) (hn : (Lit.int .i64 n).wf = true) :
    Calls Try.prog 3 #[.slice A L.length c, .int .i64 n] w fun e w' => e = .returned (.bool true) ∧ Below w.heap.size w w' :=
  bookPlays_any A c L n w hr hc hi.1 (wf_i64 hn)
end Go.Proofs.Ytnbojemjaipnlaa.H
