/- FatS. -/
import Derived.RangeFuncNested
import Derived.RangeFuncBound
import Derived.RangeFuncCalls
import Derived.RangeFuncLeaves
import Derived.RangeFuncKeeps
import Derived.RangeFuncBox
import Derived.WalkKit
import Derived.OwnWalkIn
import Derived.TacticsInMore
namespace Go.Proofs.Ytkjighagiecbaaa.H
open Go.RowKit
set_option linter.unusedVariables false
set_option linter.unusedSimpArgs false
def SameB (K : Nat) (A B : World) : Prop := B.heap[K]? = A.heap[K]? ∧ B.heap[K + 1]? = A.heap[K + 1]?
theorem SameB.refl (K : Nat) (A : World) : SameB K A A := ⟨rfl, rfl⟩
theorem SameB.trans {K : Nat} {A B C : World} (h : SameB K A B) (g : SameB K B C) : SameB K A C := ⟨g.1.trans h.1, g.2.trans h.2⟩
theorem SameB.below {K : Nat} {A B : World} (h : Below A.heap.size A B) (hk : K + 1 < A.heap.size) : SameB K A B := ⟨h.block K (by omega), h.block (K + 1) hk⟩
theorem SameB.set {K : Nat} (A : World) (a : Addr) (v : Value) (h : a.block < K) : SameB K A (A.setCell a v) := ⟨Below.heap_setCell A a v K (by omega), Below.heap_setCell A a v (K + 1) (by omega)⟩
def RoundEnd {α : Type} (K b : Nat) (J Jx : List α → World → Prop) (Ki : World → World → Prop) (xs : List α) (W : World) : Exit → Act → World → Prop
  | .normal, _, W' => SameB K W W' ∧ Ki W W' ∧ J xs W'
  | .exit i, _, W' => i = b ∧ SameB K W W' ∧ Ki W W' ∧ Jx xs W'
  | _, _, _ => False
def IterAt {α : Type} (F : Fence) (n : Nat) (P : Program) (gf : Nat) (lb : Array Value) (enc : α → Array Value) (K N : Nat) (J Jx S Sx : List α → World → Prop) (Ki : World → World → Prop) (W : World) : Prop :=
  ∀ (Y Yx : List α → World → Prop), (∀ pre A, Y pre A → J pre A ∧ K + 1 < A.heap.size) → (∀ pre A B, Y pre A → SameB K A B → J pre B → Y pre B) → (∀ pre A, Yx pre A → Jx pre A) → Y [] W →
    (∀ m pre x W1, Y pre W1 → pre.length < N → YieldAt F m P (K + 1) (enc x) W1 fun e W' => Ki W1 W' ∧ ((e = .returned (.bool true) ∧ Y (pre ++ [x]) W') ∨ (e = .returned (.bool false) ∧ Yx (pre ++ [x]) W'))) →
    CallsIn F n P gf (#[.func (.yield (K + 1)) #[] #[]] ++ lb) W fun e W' => (∃ v, e = .returned v) ∧ ((∃ xs, S xs W' ∧ Y xs W') ∨ (∃ xs, Sx xs W' ∧ Yx xs W'))
theorem range_with {α : Type} {F : Fence} {n : Nat} {P : Program} {g : Operand} {ps : Array Tmp} {assign body : Code} {Q : Exit → Act → World → Prop} {a : Act} {w : World}
    (hro : F.round = none) (hd : F.depth = none) (h1 : 1 ≤ n) {gf : Nat} {lb : Array Value} (hg : a.eval g = .func (.func gf) #[] lb) (hFg : F.fn gf) (eg : ∀ args w, (callFunc gf args).run P w = .ok (.enter gf args) w)
    {enc : α → Array Value} (hps : ∀ x, (enc x).size = ps.size) (J Jx S Sx : List α → World → Prop) (Ki : World → World → Prop) (hKt : ∀ {A B C : World}, Ki A B → Ki B C → Ki A C) (b N : Nat)
    (hKp : ∀ W o, Ki W (W.putObj (w.heap.size + 1) o)) (hJp : ∀ xs W o r, W.heap[w.heap.size + 1]? = some (.loop r) → J xs W → J xs (W.putObj (w.heap.size + 1) o)) (hJxp : ∀ xs W o r, W.heap[w.heap.size + 1]? = some (.loop r) → Jx xs W → Jx xs (W.putObj (w.heap.size + 1) o))
    (hSp : ∀ xs W o r, W.heap[w.heap.size + 1]? = some (.loop r) → S xs W → S xs (W.putObj (w.heap.size + 1) o)) (hSxp : ∀ xs W o r, W.heap[w.heap.size + 1]? = some (.loop r) → Sx xs W → Sx xs (W.putObj (w.heap.size + 1) o))
    (h0 : ∀ o o', J [] ((w.alloc o).alloc o')) (a₁ : α → Act)
    (hiter : ∀ o o', IterAt F (n - 1) P gf lb enc w.heap.size N J Jx S Sx Ki ((w.alloc o).alloc o'))
    (hassign : ∀ (l m : Nat) (x : α) (W : World) (K : Act → World → Prop), K (a₁ x) W → assign.wpIn (F.inRound l) m P (Exit.then K (fun _ _ _ => False)) { tmps := (ps.zip (enc x)).foldl (fun t (p, v) => t.setIfInBounds p v) a.tmps, defers := [] } W)
    (hbody : ∀ (l m : Nat) (pre : List α) (x : α) (W : World), J pre W → pre.length < N → w.heap.size + 1 < W.heap.size → body.wpIn (F.inRound l) m P (RoundEnd w.heap.size b J Jx Ki (pre ++ [x]) W) (a₁ x) W)
    (hdone : ∀ (xs : List α) (W : World), S xs W → J xs W → W.heap[w.heap.size]? = some (.deferred (some [])) → Q .normal { a with defers := { target := .collected w.heap.size, args := #[] } :: a.defers } W)
    (hstop : ∀ (xs : List α) (W : World), Sx xs W → Jx xs W → W.heap[w.heap.size]? = some (.deferred (some [])) → (Code.exit b).wpIn F n P Q { a with defers := { target := .collected w.heap.size, args := #[] } :: a.defers } W) :
    (Code.rangeFunc g ps assign body).wpIn F n P Q a w := by
  refine wpIn_rangeFunc fun fn hfn => ?_
  rw [hro]
  obtain ⟨rec, hrec⟩ : ∃ rec : LoopState → Option Code → Loop, rec = fun st pe => { state := st, pending := pe, fn, tmps := a.tmps, params := ps, assign, body, defers := w.heap.size } := ⟨_, rfl⟩
  have hdef0 : ((w.alloc (.deferred (some []))).alloc (.loop (rec .ready none))).heap[w.heap.size]? = some (.deferred (some [])) := (Below.heap_alloc _ _ _ (by simp)).trans (World.alloc_heap_new w _)
  have hrec0 : ((w.alloc (.deferred (some []))).alloc (.loop (rec .ready none))).heap[w.heap.size + 1]? = some (.loop (rec .ready none)) := by
    have h := World.alloc_heap_new (w.alloc (.deferred (some []))) (.loop (rec .ready none))
    rwa [World.size_alloc] at h
  refine ⟨w.heap.size + 1, [{ target := .collected w.heap.size, args := #[] }], (w.alloc (.deferred (some []))).alloc (.loop (rec .ready none)), { target := .fn (.func gf) lb, args := #[.func (.yield (w.heap.size + 1)) #[] #[]] }, (w.alloc (.deferred (some []))).alloc (.loop (rec .ready none)), gf,
    #[.func (.yield (w.heap.size + 1)) #[] #[]] ++ lb, (w.alloc (.deferred (some []))).alloc (.loop (rec .ready none)), ?_, ?_, ?_, ?_, fun _ => h1, ?_⟩
  · rw [hrec]; exact run_enterLoop_outer _ _ _ _ _
  · simp only [resolve, hg]
    simp [go_sem]
  · intro f' hf'
    simp [Target.leads] at hf'
    subst hf'
    exact hFg
  · simp [invoke, go_sem, eg]
  refine (hiter _ _ (fun pre A => J pre A ∧ A.heap[w.heap.size]? = some (.deferred (some [])) ∧ A.heap[w.heap.size + 1]? = some (.loop (rec .ready none)))
    (fun pre A => Jx pre A ∧ A.heap[w.heap.size]? = some (.deferred (some [])) ∧ A.heap[w.heap.size + 1]? = some (.loop (rec .done (some (.exit b)))))
    (fun pre A h => ⟨h.1, (Array.getElem?_eq_some_iff.1 h.2.2).1⟩) (fun pre A B h hs hj => ⟨hj, hs.1.trans h.2.1, hs.2.trans h.2.2⟩) (fun pre A h => h.1) ⟨h0 _ _, hdef0, hrec0⟩ ?round).mono ?after
  case round =>
    rintro m pre x W ⟨hj, hk, hl⟩ hN
    have hlt : w.heap.size + 1 < W.heap.size := (Array.getElem?_eq_some_iff.1 hl).1
    have hy := run_yield (P := P) (args := enc x) hl (by rw [hrec]; exact hps x)
    rw [hrec] at hy
    refine ⟨fn, _, assign, body, hy, roundIn_of_wpIn hfn (hassign _ _ x W _ ?_)⟩
    clear hy
    refine ⟨_, run_beginRound hl (by rw [hrec]), ?_⟩
    have hl2 : (W.putObj (w.heap.size + 1) (.loop { rec .ready none with state := .busy })).heap[w.heap.size + 1]? = some (.loop { rec .ready none with state := .busy }) := World.putObj_heap_same hlt
    have hk2 : (W.putObj (w.heap.size + 1) (.loop { rec .ready none with state := .busy })).heap[w.heap.size]? = some (.deferred (some [])) := (World.putObj_heap_other (by omega)).trans hk
    refine wpIn_mono (hbody _ _ pre x _ (hJp _ _ _ _ hl hj) hN (by rw [World.putObj_size]; exact hlt)) ?_
    rintro e a3 W3 hp
    have fin : ∀ jump : Option Code, SameB w.heap.size (W.putObj (w.heap.size + 1) (.loop { rec .ready none with state := .busy })) W3 →
        (Instr.endRound (w.heap.size + 1) jump).run P W3 = .ok (.bool jump.isNone) (W3.putObj (w.heap.size + 1) (.loop (rec (if jump.isNone then .ready else .done) jump))) ∧
        (W3.putObj (w.heap.size + 1) (.loop (rec (if jump.isNone then .ready else .done) jump))).heap[w.heap.size]? = some (.deferred (some [])) ∧
        (W3.putObj (w.heap.size + 1) (.loop (rec (if jump.isNone then .ready else .done) jump))).heap[w.heap.size + 1]? = some (.loop (rec (if jump.isNone then .ready else .done) jump)) := fun jump hs => by
      have hl3 := hs.2.trans hl2
      have hr := run_endRound (P := P) jump hl3
      rw [hrec] at hr ⊢
      exact ⟨hr, (World.putObj_heap_other (by omega)).trans (hs.1.trans hk2), World.putObj_heap_same (Array.getElem?_eq_some_iff.1 hl3).1⟩
    cases e with
    | normal =>
      obtain ⟨hs, hki, hj3⟩ := hp
      obtain ⟨hr, hk4, hl4⟩ := fin none hs
      exact ⟨_, _, hr, hKt (hKp _ _) (hKt hki (hKp _ _)), .inl ⟨rfl, hJp _ _ _ _ (hs.2.trans hl2) hj3, hk4, hl4⟩⟩
    | exit i =>
      obtain ⟨rfl, hs, hki, hj3⟩ := hp
      obtain ⟨hr, hk4, hl4⟩ := fin (some (.exit i)) hs
      exact ⟨_, _, hr, hKt (hKp _ _) (hKt hki (hKp _ _)), .inr ⟨rfl, hJxp _ _ _ _ (hs.2.trans hl2) hj3, hk4, hl4⟩⟩
    | ret => exact hp.elim
    | goto t => exact hp.elim
    | panic ch => exact hp.elim
    | outgrown => exact hp.elim
  case after =>
    rintro e W2 ⟨⟨v, rfl⟩, (⟨xs, hS, hj, hk, hl⟩ | ⟨xs, hS, hj, hk, hl⟩)⟩
    · exact ⟨none, _, by have h := run_endLoop (P := P) hl (by rw [hrec]; simp); rw [hrec] at h; exact h, hdone xs _ (hSp _ _ _ _ hl hS) (hJp _ _ _ _ hl hj) ((World.putObj_heap_other (by omega)).trans hk)⟩
    · exact ⟨some (.exit b), _, by have h := run_endLoop (P := P) hl (by rw [hrec]; simp); rw [hrec] at h; exact h, hstop xs _ (hSxp _ _ _ _ hl hS) (hJxp _ _ _ _ hl hj) ((World.putObj_heap_other (by omega)).trans hk)⟩
end Go.Proofs.Ytkjighagiecbaaa.H
