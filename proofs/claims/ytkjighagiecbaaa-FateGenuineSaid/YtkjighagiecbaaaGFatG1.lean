/- OpenW, FatO, FatG1. -/
import Derived.Test.YtkjighagiecbaaaGOpen2
import Derived.SizedLaws
import Derived.Test.YtkjighagiecbaaaGFatZ
import Derived.Test.YtkjighagiecbaaaGFatE1
import Derived.Test.YtkjighagiecbaaaGFatL2
/-! ### OpenW -/
namespace Go.Proofs.Ytkjighagiecbaaa.Open
open Go.RowKit Go.Proofs.YtkjighagiecbaaaW.PrintWords Go.Proofs.YtkjighagiecbaaaW.PrintLast
set_option linter.unusedVariables false
set_option linter.unusedSimpArgs false
structure OpensW (P : Program) (t : TypeId) {α : Type} (K : Kd α) (I : α → Prop) : Prop where
  out : ∀ {H : Type} (enc : TypeId × Value → H) (w : World) (base : Nat) (spare : Nat → Bool) (held : Bool) (fuel : Nat) (cs : List Value) (y : DataW H × List MemPlace),
    DataW.trod enc P w base spare held fuel t cs = some y → (∀ n ∈ y.1.weights P t, n ≤ 140737488351232) → ∃ x, K.K w x cs ∧ I x
theorem Opens.toW {P : Program} {t : TypeId} {α : Type} {K : Kd α} {I : α → Prop} (h : Opens P t K I) : OpensW P t K I := ⟨fun enc w base spare held fuel cs y hy _ => h.out enc w base spare held fuel cs y hy⟩
theorem OpensW.slice {P : Program} {t e : TypeId} {α : Type} {K : Kd α} {I : List α → Prop} {B : Nat} (ht : P.underlying t = some (.slice e)) (h : Opens P t (Kd.slice e K) I) (hB : P.bytesOf e = B) :
    OpensW P t (Kd.slice e K) (fun l => I l ∧ l.length * B ≤ 140737488351232) := by
  refine ⟨?_⟩
  intro H enc w base spare held fuel cs y hy hw
  obtain ⟨l, hK, hI⟩ := h.out enc w base spare held fuel cs y hy
  refine ⟨l, hK, hI, ?_⟩
  obtain ⟨A, c, rfl, hlc, hC⟩ := hK
  cases fuel with
  | zero => simp [DataW.trod] at hy
  | succ m =>
    unfold DataW.trod at hy
    rw [ht] at hy
    split at hy <;> first | (rename_i h1; cases h1; done) | skip
    all_goals first | (rename_i h1 h2; cases h1; done) | skip
    · rename_i e' h1
      simp at h1
      rw [h1.2.1]
      simp
    · rename_i e' a len cap h1
      cases h1
      dsimp only at hy
      split at hy
      · rename_i hb h2
        obtain ⟨elems, hel, hrest⟩ := Option.bind_eq_some_iff.1 hy
        obtain ⟨hl, hx⟩ := mapM_some hel
        obtain ⟨rest, _, rfl⟩ := Option.map_eq_some_iff.1 hrest
        cases cap
        have h3 := hw ((elems.length + rest.length) * P.bytesOf e) (by
          simp only [DataW.weights, ht, List.length_map]
          exact List.mem_cons_self ..)
        rw [hB] at h3
        rw [List.length_range] at hl
        refine Nat.le_trans (Nat.mul_le_mul_right B ?_) h3
        omega
      · cases hy
    · cases hy
structure OpensWAt (P : Program) (off : Nat) (fs : List Field) {α : Type} (K : Kd α) (I : α → Prop) : Prop where
  out : ∀ {H : Type} (enc : TypeId × Value → H) (w : World) (base : Nat) (spare : Nat → Bool) (held : Bool) (n : Nat) (cs : List Value), cs.length = off + K.sz →
    (∀ f ∈ fs, ∃ y : DataW H × List MemPlace, DataW.trod enc P w base spare held n f.type ((cs.drop f.offset).take (P.cellsOf f.type)) = some y ∧ ∀ m ∈ y.1.weights P f.type, m ≤ 140737488351232) → ∃ x, K.K w x (cs.drop off) ∧ I x
theorem OpensWAt.last {P : Program} {off : Nat} {f : Field} {α : Type} {K : Kd α} {I : α → Prop} (ho : f.offset = off) (hK : OpensW P f.type K I) (hsz : P.cellsOf f.type = K.sz) : OpensWAt P off [f] K I := by
  refine ⟨?_⟩
  intro H enc w base spare held n cs hl hf
  obtain ⟨y, hy, hw⟩ := hf f (List.mem_singleton.2 rfl)
  rw [ho, hsz, List.take_of_length_le (by rw [List.length_drop]; omega)] at hy
  exact hK.out enc w base spare held n _ _ hy hw
theorem OpensWAt.cons {P : Program} {off : Nat} {f : Field} {fs : List Field} {α β : Type} {K : Kd α} {I : α → Prop} {K' : Kd β} {I' : β → Prop} (ho : f.offset = off) (hK : OpensW P f.type K I) (hsz : P.cellsOf f.type = K.sz)
    (hfs : OpensWAt P (off + K.sz) fs K' I') : OpensWAt P off (f :: fs) (Kd.pair K K') (fun x => I x.1 ∧ I' x.2) := by
  refine ⟨?_⟩
  intro H enc w base spare held n cs hl hf
  obtain ⟨y, hy, hw⟩ := hf f (List.mem_cons_self ..)
  rw [ho, hsz] at hy
  obtain ⟨x, hx, ix⟩ := hK.out enc w base spare held n _ _ hy hw
  have hl' : cs.length = off + (K.sz + K'.sz) := hl
  obtain ⟨x', hx', ix'⟩ := hfs.out enc w base spare held n cs (by omega) fun g hg => hf g (List.mem_cons_of_mem _ hg)
  refine ⟨(x, x'), ⟨_, _, ?_, hx, hx'⟩, ix, ix'⟩
  rw [← List.drop_drop, List.take_append_drop]
theorem OpensWAt.struct {P : Program} {t : TypeId} {fs : List Field} {α : Type} {K : Kd α} {I : α → Prop} (h : OpensWAt P 0 fs K I) (ht : P.underlying t = some (.struct fs.toArray)) (hsz : P.cellsOf t = K.sz) : OpensW P t K I := by
  refine ⟨?_⟩
  intro H enc w base spare held fuel cs y hy hw
  obtain ⟨xs, n, _, rfl, hl, hlen, hf⟩ := DataW.trod_struct ht hy
  have := h.out enc w base spare held n cs (by omega) fun f hf' => by
    obtain ⟨i, hi⟩ := List.mem_iff_getElem?.1 hf'
    have hi' : fs.toArray[i]? = some f := by simpa using hi
    have hil : i < xs.length := by
      have := (Array.getElem?_eq_some_iff.1 hi').1
      omega
    refine ⟨xs[i], (hf i f hi').trans (List.getElem?_eq_getElem hil), fun m hm => ?_⟩
    refine hw m ?_
    simp only [DataW.weights, ht]
    exact DataW.weights_mem_each (j := i) (t := f.type) (d := xs[i].1) (by simp [hi]) (by simp [List.getElem?_eq_getElem hil]) m hm
  exact this
theorem OpensW.iso {P : Program} {t : TypeId} {α β : Type} {K : Kd α} {I : α → Prop} (f : β → α) (g : α → β) (hfg : ∀ x, f (g x) = x) (h : OpensW P t K I) : OpensW P t (Kd.iso K f) (fun y => I (f y)) := by
  refine ⟨?_⟩
  intro H enc w base spare held fuel cs y hy hw
  obtain ⟨x, hx, ix⟩ := h.out enc w base spare held fuel cs y hy hw
  exact ⟨g x, (by show K.K w (f (g x)) cs; rw [hfg]; exact hx), by show I (f (g x)); rw [hfg]; exact ix⟩
theorem OpensW.imp {P : Program} {t : TypeId} {α : Type} {K : Kd α} {I J : α → Prop} (h : OpensW P t K I) (hIJ : ∀ x, I x → J x) : OpensW P t K J := by
  refine ⟨?_⟩
  intro H enc w base spare held fuel cs y hy hw
  obtain ⟨x, hx, ix⟩ := h.out enc w base spare held fuel cs y hy hw
  exact ⟨x, hx, hIJ x ix⟩
theorem sized_arg {H : Type} {P : Program} {ts : List TypeId} {ds : List (DataW H)} (h : (DataW.weightsEach P ts ds).all (· ≤ reachBytes) = true) {j : Nat} {t : TypeId} {d : DataW H} (ht : ts[j]? = some t) (hd : ds[j]? = some d) : ∀ n ∈ d.weights P t, n ≤ 140737488351232 := by
  intro n hn
  have h1 := List.all_eq_true.1 h n (DataW.weights_mem_each ht hd n hn)
  exact of_decide_eq_true h1
end Go.Proofs.Ytkjighagiecbaaa.Open
/-! ### FatO -/
namespace Go.Proofs.Ytkjighagiecbaaa.H
open Go.RowKit Go.Proofs.Ytkjighagiecbaaa.P Go.Proofs.Ytkjighagiecbaaa.Open Go.Proofs.YtkjighagiecbaaaW.PrintWords Go.Proofs.YtkjighagiecbaaaW.PrintLast
set_option linter.unusedVariables false
set_option linter.unusedSimpArgs false
theorem wf_i64 {x : Int} (h : (Lit.int .i64 x).wf = true) : i64 x := by
  simp only [Lit.wf, Bool.and_eq_true, decide_eq_true_eq] at h
  have e3 : IntKind.i64.min = -9223372036854775808 := rfl
  have e4 : IntKind.i64.max = 9223372036854775807 := rfl
  unfold i64
  omega
theorem opensPort : Opens Try.prog 33 k33 (fun x => i64 x.f0 ∧ i64 x.f1) := by
  refine' Opens.imp (Opens.iso (fun x : S33 => (x.f0, x.f1)) (fun y => ⟨y.1, y.2⟩) (fun _ => rfl) (OpensAt.struct' ?h Try.underlying33 (by kernel_rfl))) ?i
  case h => exact OpensAt.cons rfl (Opens.int Try.underlying3) (by kernel_rfl) (OpensAt.last rfl (Opens.int Try.underlying3) (by kernel_rfl))
  case i => exact fun x h => ⟨wf_i64 h.1, wf_i64 h.2⟩
theorem opensLink : Opens Try.prog 66 k66 (fun x => True) := by
  refine' Opens.imp (Opens.iso (fun x : S66 => (x.f0, x.f1)) (fun y => ⟨y.1, y.2⟩) (fun _ => rfl) (OpensAt.struct' ?h Try.underlying66 (by kernel_rfl))) ?i
  case h => exact OpensAt.cons rfl opensPort (by kernel_rfl) (OpensAt.last rfl opensPort (by kernel_rfl))
  case i => exact fun x h => trivial
theorem opensRange : Opens Try.prog 60 k60 (fun _ => True) := by
  refine' Opens.imp (Opens.iso (fun x : S60 => (x.f0, x.f1)) (fun y => ⟨y.1, y.2⟩) (fun _ => rfl) (OpensAt.struct' ?h Try.underlying60 (by kernel_rfl))) ?i
  case h => exact OpensAt.cons rfl (Opens.int Try.underlying29) (by kernel_rfl) (OpensAt.last rfl (Opens.int Try.underlying29) (by kernel_rfl))
  case i => exact fun x h => trivial
theorem opensRule : Opens Try.prog 62 k62 (fun r => i64 r.f0) := by
  refine' Opens.imp (Opens.iso (fun x : S62 => (x.f0, x.f1, x.f2, x.f3, x.f4, x.f5)) (fun y => ⟨y.1, y.2.1, y.2.2.1, y.2.2.2.1, y.2.2.2.2.1, y.2.2.2.2.2⟩) (fun _ => rfl) (OpensAt.struct' ?h Try.underlying62 (by kernel_rfl))) ?i
  case h => exact OpensAt.cons rfl (Opens.int Try.underlying3) (by kernel_rfl) (OpensAt.cons rfl (Opens.int Try.underlying3) (by kernel_rfl) (OpensAt.cons rfl (Opens.int Try.underlying3) (by kernel_rfl) (OpensAt.cons rfl (Opens.int Try.underlying58) (by kernel_rfl) (OpensAt.cons rfl opensRange (by kernel_rfl) (OpensAt.last rfl (Opens.int Try.underlying3) (by kernel_rfl))))))
  case i => exact fun x h => wf_i64 h.1
abbrev kNet := Kd.pair (Kd.pair (Kd.slice 3 (Kd.int .i64)) (Kd.slice 66 k66)) (Kd.slice 62 k62)
def NetOk (x : (List Int × List S66) × List Rul) : Prop := sizesN x.1.2 x.2 ∧ idsB x.2 = true
theorem opensTopo : OpensW Try.prog 25 (Kd.pair (Kd.slice 3 (Kd.int .i64)) (Kd.slice 66 k66)) (fun x => x.2.length * 32 ≤ 140737488351232) := by
  refine' OpensW.imp (OpensWAt.struct ?h Try.underlying25 (by kernel_rfl)) ?i
  case h => exact OpensWAt.cons rfl (Opens.slice Try.underlying22 (Opens.int Try.underlying3) (by kernel_rfl)).toW (by kernel_rfl) (OpensWAt.last rfl (OpensW.slice (B := 32) Try.underlying23 (Opens.slice Try.underlying23 opensLink (by kernel_rfl)) (by kernel_rfl)) (by kernel_rfl))
  case i => exact fun x h => h.2.2
theorem opensNet : OpensW Try.prog 28 kNet NetOk := by
  refine' OpensW.imp (OpensWAt.struct ?h Try.underlying28 (by kernel_rfl)) ?i
  case h => exact OpensWAt.cons rfl opensTopo (by kernel_rfl) (OpensWAt.last rfl (OpensW.slice (B := 48) Try.underlying26 (Opens.slice Try.underlying26 opensRule (by kernel_rfl)) (by kernel_rfl)) (by kernel_rfl))
  case i =>
    intro x h
    refine ⟨⟨by have := h.2.2; omega, by have := h.1; omega⟩, ?_⟩
    unfold idsB
    rw [List.all_eq_true]
    intro r hr
    have := h.2.1 r hr
    unfold i64 at this
    simpa using this
theorem net_open {w : World} {x : (List Int × List S66) × List Rul} {cs : List Value} (h : kNet.K w x cs) : ∃ A0 c0 A1 c1 A2 c2, cs = [.slice A0 x.1.1.length c0, .slice A1 x.1.2.length c1, .slice A2 x.2.length c2] ∧ NetAt A0 c0 x.1.1 A1 c1 x.1.2 A2 c2 x.2 w := by
  obtain ⟨_, _, rfl, ⟨_, _, rfl, ⟨A0, c0, rfl, h0, r0⟩, ⟨A1, c1, rfl, h1, r1⟩⟩, ⟨A2, c2, rfl, h2, r2⟩⟩ := h
  exact ⟨A0, c0, A1, c1, A2, c2, rfl, ⟨r0, h0, r1, h1, r2, h2⟩⟩
end Go.Proofs.Ytkjighagiecbaaa.H
/-! ### FatG1 -/
namespace Go.Proofs.Ytkjighagiecbaaa.H
open Go.RowKit Go.Proofs.Ytkjighagiecbaaa.P Go.Proofs.YtkjighagiecbaaaW.PrintWords Go.Proofs.YtkjighagiecbaaaW.PrintLast Go.Proofs.YtkjighagiecbaaaW.PrintMore
set_option linter.unusedVariables false
set_option linter.unusedSimpArgs false
section
variable {l0 : List Int} {l1 : List S66} {l2 : List Rul}
theorem fate_rng {d a : Int} {X : List Int} {f px py : Int} (hd : 0 ≤ d ∧ d < (l0.length : Int)) (ht : traceF l0 l1 l2 d a = (X, f, px, py, 0)) : 0 ≤ f ∧ f ≤ 4 := by
  unfold traceF at ht
  rw [if_neg (by omega)] at ht
  simp only [Prod.mk.injEq] at ht
  obtain ⟨_, _, _, _, _, _, hs⟩ := ends_last (trcP_tr l1 l2 a d)
  rw [← ht.2.1]
  by_cases c : (trcP l1 l2 a d).2.1 = 4
  · rw [c]; omega
  · rw [hs c]
    exact (step_fates matchP denyP l2 (nxS l1) a _).2.2.2
theorem gen_yes {d a : Int} {X : List Int} {f px py : Int} (hs : sizesN l1 l2) (ht : traceF l0 l1 l2 d a = (X, f, px, py, 0)) (hX : X[0]? = some d) (hl : X.length ≤ 1000) : E.fate_Genuine.f l0 l1 l2 a X f px py = some true := by
  match X, hX with
  | y :: rest, hX =>
    obtain rfl : y = d := by simpa using hX
    rw [genuineE_ev l0 l1 l2 hs a y rest f px py (by omega), ht]
    simp only [decide_true, sameT_self, Bool.and_self]
theorem gen_no {d a : Int} {X : List Int} {f px py : Int} (hs : sizesN l1 l2) (ht : traceF l0 l1 l2 d a = (X, f, px, py, 0)) (L : List Int) (f' x' y' : Int) (hl : L.length ≤ 1000) (h : L = [] ∨ (L[0]? = some d ∧ (L ≠ X ∨ f' ≠ f ∨ y' ≠ py))) : E.fate_Genuine.f l0 l1 l2 a L f' x' y' = some false := by
  cases L with
  | nil =>
    unfold E.fate_Genuine.f
    rw [if_pos (by rfl)]
  | cons y rest =>
    rcases h with h | ⟨hX, h⟩
    · cases h
    obtain rfl : y = d := by simpa using hX
    rw [genuineE_ev l0 l1 l2 hs a y rest f' x' y' (by omega), ht]
    unfold sameT
    rcases h with h | h | h
    · simp only [decide_eq_false h, Bool.false_and, Bool.and_false]
    · simp only [decide_eq_false h, Bool.false_and, Bool.and_false]
    · simp only [show (y' == py) = false from by rw [beq_eq_false_iff_ne]; exact h, Bool.and_false]
theorem gen_of {A0 : Option Addr} {c0 : Nat} {A1 : Option Addr} {c1 : Nat} {A2 : Option Addr} {c2 : Nat} {a : Int} {L : List Int} {f x y : Int} {r : Bool} (hr : E.fate_Genuine.f l0 l1 l2 a L f x y = some r) (B : Option Addr) (cB : Nat) (w : World) (hN : NetAt A0 c0 l0 A1 c1 l1 A2 c2 l2 w) (hC : Kd.C (Kd.int .i64) w B L.length L) (hc : L.length ≤ cB) :
    Calls Try.prog 19 #[netV A0 c0 l0 A1 c1 l1 A2 c2 l2, .int .u32 a, .agg #[.slice B L.length cB, .int .i64 f, .int .i64 x, .int .i64 y]] w fun e w' => e = .returned (.bool r) ∧ Below w.heap.size w w' :=
  E.fate_Genuine.calls A0 c0 l0 A1 c1 l1 A2 c2 l2 a B cB L f x y r w hN.r0 hN.c0 hN.r1 hN.c1 hN.r2 hN.c2 hC hc hr
end
end Go.Proofs.Ytkjighagiecbaaa.H
