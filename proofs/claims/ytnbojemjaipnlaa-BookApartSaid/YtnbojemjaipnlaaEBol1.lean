/- Bol1. -/
import Derived.Test.YtnbojemjaipnlaaEPx2
namespace Go.Proofs.Ytnbojemjaipnlaa.H
open Go.RowKit Go.Proofs.Ytnbojemjaipnlaa.P Go.Proofs.YtnbojemjaipnlaaW.PrintWords Go.Proofs.YtnbojemjaipnlaaW.PrintLast Go.Proofs.YtnbojemjaipnlaaW.PrintMore
set_option linter.unusedVariables false
set_option linter.unusedSimpArgs false
set_option maxRecDepth 20000
structure ActR where
  k : Int
  n : Int
  nm : ByteArray
  e : Edi
def kAct : Kd ActR := Kd.iso (Kd.pair (Kd.int .i64) (Kd.pair (Kd.int .i64) (Kd.pair Kd.string k37))) (fun x : ActR => (x.k, x.n, x.nm, x.e))
def acells (a : ActR) : List Value := [.int .i64 a.k, .int .i64 a.n, .string a.nm, .int .i64 a.e.f0, .int .i64 a.e.f1.f0, .int .i64 a.e.f1.f1, .int .i64 a.e.f1.f2, .int .i64 a.e.f1.f3, .int .u32 a.e.f1.f4.f0, .int .u32 a.e.f1.f4.f1, .int .i64 a.e.f1.f5]
def encA (a : ActR) : Value := .agg #[.int .i64 a.k, .int .i64 a.n, .string a.nm, .int .i64 a.e.f0, .int .i64 a.e.f1.f0, .int .i64 a.e.f1.f1, .int .i64 a.e.f1.f2, .int .i64 a.e.f1.f3, .int .u32 a.e.f1.f4.f0, .int .u32 a.e.f1.f4.f1, .int .i64 a.e.f1.f5]
def doM (M : List (Int × Ses)) (a : ActR) : List (Int × Ses) :=
  if a.k = 1 then (openM M a.nm).1 else if a.k = 2 then closeM M a.n else if a.k = 3 then (switchM M a.n a.nm).1 else if a.k = 4 then (stageM M a.n a.e).1 else if a.k = 5 then clearM M a.n else M
structure GoodM (M : List (Int × Ses)) : Prop where
  up : RiseK M
  key : ∀ p ∈ M, 1 ≤ p.1 ∧ p.1 ≤ 4
  few : ∀ p ∈ M, p.2.2.length ≤ 10
theorem good_nil : GoodM [] := ⟨List.Pairwise.nil, fun p h => (by cases h), fun p h => (by cases h)⟩
theorem mem_put {M : List (Int × Ses)} {n : Int} {s : Ses} {p : Int × Ses} (h : p ∈ putM M n s) : p = (n, s) ∨ p ∈ M := by
  unfold putM at h
  rcases List.mem_append.1 h with h | h
  · exact .inr (List.mem_filter.1 h).1
  · rcases List.mem_cons.1 h with h | h
    · exact .inl h
    · exact .inr (List.mem_filter.1 h).1
theorem good_put {M : List (Int × Ses)} (h : GoodM M) {n : Int} {s : Ses} (h1 : 1 ≤ n ∧ n ≤ 4) (h2 : s.2.length ≤ 10) : GoodM (putM M n s) := by
  refine ⟨rise_put h.up n s, fun p hp => ?_, fun p hp => ?_⟩
  · rcases mem_put hp with rfl | hp
    · exact h1
    · exact h.key p hp
  · rcases mem_put hp with rfl | hp
    · exact h2
    · exact h.few p hp
theorem look_mem {M : List (Int × Ses)} {n : Int} {s : Ses} (h : lookM M n = some s) : (n, s) ∈ M := by
  unfold lookM at h
  rw [Option.map_eq_some_iff] at h
  obtain ⟨p, h1, h2⟩ := h
  have h3 := List.find?_some h1
  have h4 := List.mem_of_find?_eq_some h1
  have : p.1 = n := by simpa using h3
  rw [← this, ← h2]
  exact h4
theorem good_len {M : List (Int × Ses)} (h : GoodM M) : M.length ≤ 4 := by
  have hk : (M.map (·.1)).Pairwise (· < ·) := by rw [List.pairwise_map]; exact h.up
  have hnd : (M.map (·.1)).Nodup := hk.imp (fun {a b} (q : a < b) => by intro e; omega)
  have := pigeon (M.map (·.1)) ([(1, ()), (2, ()), (3, ()), (4, ())] : List (Int × Unit)) hnd (by
    intro a ha
    obtain ⟨p, hp, rfl⟩ := List.mem_map.1 ha
    have hr := h.key p hp
    have : p.1 = 1 ∨ p.1 = 2 ∨ p.1 = 3 ∨ p.1 = 4 := by omega
    rcases this with e | e | e | e <;> rw [e] <;> decide)
  simpa using this
theorem good_do {M : List (Int × Ses)} (h : GoodM M) (a : ActR) : GoodM (doM M a) := by
  unfold doM
  split
  · unfold openM
    cases hf : freeM M 4 1 with
    | none => exact h
    | some n =>
      obtain ⟨m, rfl, h1, h2, _⟩ := free_some 4 1 n hf
      exact good_put h (by omega) (by simp)
  · split
    · unfold closeM
      cases lookM M a.n with
      | none => exact h
      | some s => exact ⟨rise_del h.up _, fun p hp => h.key p (List.mem_filter.1 hp).1, fun p hp => h.few p (List.mem_filter.1 hp).1⟩
    · split
      · unfold switchM
        cases hl : lookM M a.n with
        | none => exact h
        | some s =>
          dsimp only
          split
          · exact h
          · exact good_put h (h.key _ (look_mem hl)) (by simp)
      · split
        · unfold stageM
          cases hl : lookM M a.n with
          | none => exact h
          | some s =>
            dsimp only
            split
            · exact h
            · refine good_put h (h.key _ (look_mem hl)) ?_
              simp
              omega
        · split
          · unfold clearM
            cases hl : lookM M a.n with
            | none => exact h
            | some s => exact good_put h (h.key _ (look_mem hl)) (by simp)
          · exact h
theorem doc_ne {w : World} {hb g mb : Nat} {M N : List (Int × Ses)} (h : BookAt w hb g M) (k : DocAt w mb N) : mb ≠ hb ∧ mb ≠ g := by
  obtain ⟨v, R, e, _, _⟩ := k
  obtain ⟨e2, R2, h2, _⟩ := h
  refine ⟨?_, ?_⟩
  · rintro rfl
    rw [e] at e2
    simp at e2
  · rintro rfl
    obtain ⟨es, clock, hb, _⟩ := h2.own
    rw [e] at hb
    cases hb
theorem BookAt.map {w : World} {hb g : Nat} {M : List (Int × Ses)} (h : BookAt w hb g M) : ∀ cs t z, w.heap[g]? ≠ some (.cells cs t z) := by
  obtain ⟨e2, R2, h2, _⟩ := h
  obtain ⟨es, clock, hb, _⟩ := h2.own
  intro cs t z e
  rw [e] at hb
  cases hb
theorem DocAt.block {w : World} {mb : Nat} {M : List (Int × Ses)} (h : DocAt w mb M) : ∀ cs, w.heap[mb]? ≠ some (.cells cs 54 (0, 0)) := by
  obtain ⟨v, R, e, _, _⟩ := h
  intro cs e2
  rw [e] at e2
  simp at e2
theorem doc_keep {w w' : World} {hb g mb : Nat} {M N : List (Int × Ses)} (h : BookAt w hb g M) (k : DocAt w mb N) (u : ButS (· = g) w w') : DocAt w' mb N :=
  k.but u (doc_ne h k).2 (fun i hi => by rw [hi]; exact h.noint) (fun i hi cs => by rw [hi]; exact h.map cs _ _)
theorem book_keep {w w' : World} {hb g mb : Nat} {M N : List (Int × Ses)} (h : BookAt w hb g M) (k : DocAt w mb N) (u : ButS (· = mb) w w') : BookAt w' hb g M :=
  h.but u (fun q => (doc_ne h k).1 q.symm) (fun q => (doc_ne h k).2 q.symm) (fun i hi => by rw [hi]; exact k.noint)
theorem wrap_up {j n : Nat} (h : j < n) (hn : n ≤ 9223372036854775807) : wrap64 ((j : Int) + 1) = ((j + 1 : Nat) : Int) := by unfold wrap64; omega
theorem same_edits (l : List Edi) (hl : l.length ≤ 9223372036854775807) : ∃ k, waystoneref14_Same.f k l l = some true := by
  have h : ∀ d j : Nat, j ≤ l.length → l.length - j = d → waystoneref14_Same.l0 (d + 1) l l (j : Int) = some true := by
    intro d
    induction d with
    | zero =>
      intro j hj hd
      obtain rfl : j = l.length := by omega
      rw [waystoneref14_Same.l0]
      simp only [Int.lt_irrefl, if_false]
    | succ d ih =>
      intro j hj hd
      have hlt : j < l.length := by omega
      rw [waystoneref14_Same.l0]
      simp only [show ((j : Int) < (l.length : Int)) from by omega, show (0 : Int) ≤ (j : Int) from by omega, if_true, beq_self_eq_true, Bool.not_true, Bool.or_false, Bool.false_eq_true, if_false, wrap_up hlt hl]
      exact ih (j + 1) (by omega) (by omega)
  refine ⟨l.length + 1, ?_⟩
  unfold waystoneref14_Same.f
  simp only [if_true]
  exact h _ 0 (Nat.zero_le _) rfl
theorem sameE_any (A B : Option Addr) (c d : Nat) (l : List Edi) (w : World) (h1 : Kd.C k37 w A l.length l) (h2 : l.length ≤ c) (h3 : Kd.C k37 w B l.length l) (h4 : l.length ≤ d) (hl : l.length ≤ 1000) :
    Calls Try.prog 14 #[.slice A l.length c, .slice B l.length d] w fun e w' => e = .returned (.bool true) ∧ Below w.heap.size w w' := by
  obtain ⟨k, hk⟩ := same_edits l (by omega)
  refine (waystoneref14_Same.calls k A c l B d l true w h1 h2 h3 h4 hk).mono ?_
  rintro e w' ⟨rfl, hd⟩
  exact ⟨rfl, hd.below⟩
end Go.Proofs.Ytnbojemjaipnlaa.H
