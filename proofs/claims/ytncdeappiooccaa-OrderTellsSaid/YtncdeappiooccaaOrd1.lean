/- Plain laws of histories: the places of events as a map. -/
import Derived.Test.YtncdeappiooccaaMap
import Derived.Test.YtncdeappiooccaaPx0
namespace Go.Proofs.Ytncdeappiooccaa.H
open Go.RowKit Go.Proofs.Ytncdeappiooccaa.P Go.Proofs.YtncdeappiooccaaW.PrintWords Go.Proofs.YtncdeappiooccaaW.PrintLast Go.Proofs.YtncdeappiooccaaW.PrintMore
set_option linter.unusedVariables false
set_option linter.unusedSimpArgs false
set_option linter.unusedSectionVars false
instance : DecidableEq S47 := fun x y => decidable_of_iff (x.f0 = y.f0 ∧ x.f1 = y.f1) ⟨fun h => by cases x; cases y; simp_all, fun h => by subst h; exact ⟨rfl, rfl⟩⟩
def encE (p : S47) : Value := .agg #[.int .i64 p.f0, .int .i64 p.f1]
def encN (x : Int) : Value := .int .i64 x
theorem eqE (d : Nat) (w : World) (x0 y0 : Int) (x1 y1 : Int) :
    (Op.equalIn (d + 2) 47 (.agg #[.int .i64 x0, .int .i64 x1]) (.agg #[.int .i64 y0, .int .i64 y1])).run Try.prog w = .ok (x0 == y0 && (x1 == y1)) w := by
  refine eqA_of Try.underlying47 (by kernel_rfl) ?_
  refine eqf_cons (by rfl) (by go_simp; rfl) (by go_simp; rfl) (by go_simp) ?_
  exact eqf_last (by rfl) (by go_simp; rfl) (by go_simp; rfl) (by go_simp)
theorem eqE_dec (x y : S47) : (x.f0 == y.f0 && (x.f1 == y.f1)) = decide (x = y) := by
  cases x; cases y
  simp [Bool.decide_and]
  rfl
theorem keyE : KeyOk Try.prog 47 encE := by
  refine ⟨fun e x w => rfl, fun x y w => ?_, ⟨_, Try.underlying47, .inl fun x y => rfl⟩, fun x => ?_⟩
  · rw [← eqE_dec]
    exact eqE 9998 w x.f0 y.f0 x.f1 y.f1
  · simp [encE, Instr.sameBits]
theorem zeroN (w : World) : (zeroValue 3).run Try.prog w = .ok (.int .i64 0) w := by kernel_rfl
/-- Where events stand, from one on. -/
def idxF : Nat → List S47 → List (S47 × Int)
  | _, [] => []
  | i, x :: t => (x, (i : Int) + 1) :: idxF (i + 1) t
def idxL (h : List S47) : List (S47 × Int) := idxF 0 h
def posF (i : Nat) (h : List S47) (k : S47) : Int := (look (idxF i h) k).getD 0
def posE (h : List S47) (k : S47) : Int := (look (idxL h) k).getD 0
theorem idxF_snoc (x : S47) : ∀ (s : List S47) (i : Nat), idxF i (s ++ [x]) = idxF i s ++ [(x, ((i + s.length : Nat) : Int) + 1)]
  | [], i => by simp [idxF]
  | y :: s, i => by
    rw [List.cons_append, idxF, idxF, idxF_snoc x s (i + 1), List.cons_append]
    congr 3
    simp; omega
theorem idxL_snoc (s : List S47) (x : S47) : idxL (s ++ [x]) = idxL s ++ [(x, (s.length : Int) + 1)] := by
  rw [idxL, idxF_snoc, Nat.zero_add]; rfl
theorem look_idxF (k : S47) : ∀ (h : List S47) (i : Nat), (k ∈ h → ∃ v : Int, look (idxF i h) k = some v ∧ (i : Int) < v ∧ v ≤ i + h.length) ∧ (¬ k ∈ h → look (idxF i h) k = none)
  | [], i => by simp [idxF, look]
  | x :: t, i => by
    have ih := look_idxF k t (i + 1)
    rw [idxF, look]
    by_cases e : k = x
    · subst e
      simp only [if_true, List.mem_cons, true_or, not_true, false_implies, and_true, true_implies]
      exact ⟨_, rfl, by omega, by simp; omega⟩
    · simp only [if_neg e, List.mem_cons, e, false_or]
      refine ⟨fun hm => ?_, ih.2⟩
      obtain ⟨v, h1, h2, h3⟩ := ih.1 hm
      exact ⟨v, h1, by omega, by simp at h3 ⊢; omega⟩
theorem posE_mem (h : List S47) (k : S47) (hm : k ∈ h) : 0 < posE h k ∧ posE h k ≤ h.length := by
  obtain ⟨v, h1, h2, h3⟩ := (look_idxF k h 0).1 hm
  unfold posE idxL
  rw [h1]
  simp at h2 h3 ⊢
  exact ⟨h2, h3⟩
theorem posE_none (h : List S47) (k : S47) (hm : ¬ k ∈ h) : posE h k = 0 := by
  unfold posE idxL
  rw [(look_idxF k h 0).2 hm]; rfl
theorem posE_pos (h : List S47) (k : S47) : decide (0 < posE h k) = decide (k ∈ h) := by
  by_cases hm : k ∈ h
  · have := posE_mem h k hm
    simp [hm, this.1]
  · simp [hm, posE_none h k hm]
theorem upd_new {α β : Type} [DecidableEq α] (k : α) (v : β) : ∀ (L : List (α × β)), (∀ x, x ∈ L → ¬ x.1 = k) → upd L k v = L ++ [(k, v)]
  | [], _ => rfl
  | (a, b) :: t, h => by
    rw [upd, if_neg (fun e => h (a, b) (by simp) e.symm), upd_new k v t (fun x hx => h x (by simp [hx]))]
    rfl
theorem keys_idxF (x : S47 × Int) : ∀ (s : List S47) (i : Nat), x ∈ idxF i s → x.1 ∈ s
  | [], i, h => by simp [idxF] at h
  | y :: s, i, h => by
    rw [idxF, List.mem_cons] at h
    rcases h with rfl | h
    · simp
    · simp [keys_idxF x s (i + 1) h]
theorem upd_idx (s : List S47) (x : S47) (h : ¬ x ∈ s) : upd (idxL s) x ((s.length : Int) + 1) = idxL (s ++ [x]) := by
  rw [idxL_snoc]
  exact upd_new x _ _ fun y hy e => h (e ▸ keys_idxF y s 0 hy)
/-! ### what is right -/
def cnt1 (pre : List S47) : Nat := pre.countP fun x => x.f0 == 1
/-- May an event stand behind others? -/
def stepOk (pre : List S47) (x : S47) : Bool :=
  !(decide (x ∈ pre)) && ((x.f0 == 1 && x.f1 == (cnt1 pre : Int) + 1) || ((x.f0 == 2 || x.f0 == 3) && decide ((⟨wrap64 (x.f0 - 1), x.f1⟩ : S47) ∈ pre)))
def rightF (pre : List S47) : List S47 → Bool
  | [] => true
  | x :: t => stepOk pre x && rightF (pre ++ [x]) t
def rightH (h : List S47) : Bool := rightF [] h
theorem rightF_snoc (x : S47) : ∀ (s pre : List S47), rightF pre (s ++ [x]) = (rightF pre s && stepOk (pre ++ s) x)
  | [], pre => by simp [rightF]
  | y :: s, pre => by
    rw [List.cons_append, rightF, rightF, rightF_snoc x s (pre ++ [y]), Bool.and_assoc]
    simp
theorem rightF_append : ∀ (s t pre : List S47), rightF pre (s ++ t) = (rightF pre s && rightF (pre ++ s) t)
  | [], t, pre => by simp [rightF]
  | y :: s, t, pre => by
    rw [List.cons_append, rightF, rightF, rightF_append s t (pre ++ [y]), Bool.and_assoc]
    simp
theorem rightH_take (h : List S47) (j : Nat) (hr : rightH h = true) : rightH (h.take j) = true := by
  have := rightF_append (h.take j) (h.drop j) []
  rw [List.take_append_drop] at this
  unfold rightH at *
  rw [hr] at this
  simp at this
  exact this.1
theorem rightH_step (h : List S47) (j : Nat) (hj : j < h.length) : rightH (h.take (j + 1)) = (rightH (h.take j) && stepOk (h.take j) h[j]) := by
  rw [List.take_succ_eq_append_getElem hj, rightH, rightF_snoc]
  rfl
theorem cnt1_step (h : List S47) (j : Nat) (hj : j < h.length) : cnt1 (h.take (j + 1)) = cnt1 (h.take j) + if h[j].f0 = 1 then 1 else 0 := by
  rw [List.take_succ_eq_append_getElem hj, cnt1, List.countP_append, List.countP_singleton]
  simp [cnt1]
theorem cnt1_le (h : List S47) (j : Nat) : cnt1 (h.take j) ≤ j := by
  have : cnt1 (h.take j) ≤ (h.take j).length := List.countP_le_length
  rw [List.length_take] at this
  omega
end Go.Proofs.Ytncdeappiooccaa.H
