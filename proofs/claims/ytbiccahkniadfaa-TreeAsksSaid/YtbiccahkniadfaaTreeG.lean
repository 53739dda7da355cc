/- The document's find on sorted pairs. -/
import Derived.Test.YtbiccahkniadfaaTreeF
import Derived.Test.YtbiccahkniadfaaPx1
namespace Go.Proofs.Ytbiccahkniadfaa.H
open Go.RowKit Go.Proofs.Ytbiccahkniadfaa.P Go.Proofs.YtbiccahkniadfaaW.PrintWords Go.Proofs.YtbiccahkniadfaaW.PrintLast Go.Proofs.YtbiccahkniadfaaW.PrintMore
set_option linter.unusedVariables false
set_option linter.unusedSimpArgs false
theorem evCast {α : Type} {g : Nat → Option α} {r r' : α} (h : Ev g r) (e : r = r') : Ev g r' := e ▸ h
def encT (L : List (Int × Int)) : List S50 := L.map fun p => (⟨p.1, p.2⟩ : S50)
theorem encT_len (L : List (Int × Int)) : (encT L).length = L.length := List.length_map ..
theorem rd50 (L : List (Int × Int)) (j : Nat) (hj : j < L.length) : rd_T50 (encT L) (j : Int) = ⟨L[j].1, L[j].2⟩ := by
  unfold rd_T50 encT
  rw [Int.toNat_natCast, List.getD_eq_getElem?_getD, List.getElem?_map, List.getElem?_eq_getElem hj]; rfl
theorem find_l0 (k : Int) (A B : List (Int × Int)) (hl : (A ++ B).length ≤ 100000) (hA : ∀ a ∈ A, a.1 < k) (hB : ∀ b, B.head? = some b → ¬ b.1 < k) (d : Nat) : ∀ j : Nat, j ≤ A.length → A.length - j = d →
    Ev (fun n => waystoneref04_find.l0 n (encT (A ++ B)) k (j : Int)) ((A.length : Int), (B.head?.map fun b => b.1 == k).getD false) := by
  induction d with
  | zero =>
    intro j hj hd
    obtain rfl : j = A.length := by omega
    refine Ev.step (fun n => by rw [waystoneref04_find.l0]) ?_
    cases B with
    | nil =>
      simp only [encT_len, List.append_nil, Int.lt_irrefl, if_false]
      exact Ev.now _
    | cons b t =>
      have h1 : ((A.length : Nat) : Int) < ((A ++ b :: t).length : Int) := by rw [List.length_append, List.length_cons]; omega
      have h2 : A.length < (A ++ b :: t).length := by omega
      have e : (A ++ b :: t)[A.length] = b := by rw [List.getElem_append_right (Nat.le_refl _)]; simp
      simp only [encT_len, h1, show (0 : Int) ≤ ((A.length : Nat) : Int) from by omega, if_true, rd50 (A ++ b :: t) A.length h2, e, hB b rfl, if_false]
      exact Ev.now _
  | succ d ih =>
    intro j hj hd
    have hlt : j < A.length := by omega
    have ih := ih (j + 1) (by omega) (by omega)
    have h2 : j < (A ++ B).length := by rw [List.length_append]; omega
    have h1 : (j : Int) < ((A ++ B).length : Int) := by omega
    have e : (A ++ B)[j] = A[j] := List.getElem_append_left hlt
    have hw : wrap64 ((j : Int) + 1) = ((j + 1 : Nat) : Int) := by unfold wrap64; omega
    refine Ev.step (fun n => by rw [waystoneref04_find.l0]) ?_
    simp only [encT_len, h1, show (0 : Int) ≤ (j : Int) from by omega, if_true, rd50 (A ++ B) j h2, e, hA _ (List.getElem_mem hlt), hw]
    exact ih
theorem find_ev (k : Int) (A B : List (Int × Int)) (hl : (A ++ B).length ≤ 100000) (hA : ∀ a ∈ A, a.1 < k) (hB : ∀ b, B.head? = some b → ¬ b.1 < k) :
    Ev (fun n => waystoneref04_find.f n (encT (A ++ B)) k) ((A.length : Int), (B.head?.map fun b => b.1 == k).getD false) := find_l0 k A B hl hA hB A.length 0 (Nat.zero_le _) (by omega)
theorem cut_list (k : Int) : ∀ L : List (Int × Int), (L.Pairwise fun a b => a.1 < b.1) → L = lowL k L ++ L.filter (fun p => !decide (p.1 < k)) ∧ ∀ b, (L.filter (fun p => !decide (p.1 < k))).head? = some b → ¬ b.1 < k
  | [], _ => ⟨rfl, fun b h => by simp at h⟩
  | x :: t, h => by
    rw [List.pairwise_cons] at h
    have ih := cut_list k t h.2
    unfold lowL at *
    by_cases c : x.1 < k
    · rw [List.filter_cons, if_pos (by simpa using c), List.filter_cons, if_neg (by simpa using c)]
      exact ⟨by rw [List.cons_append, ← ih.1], ih.2⟩
    · have e : t.filter (fun p => decide (p.1 < k)) = [] := List.filter_eq_nil_iff.2 fun a ha => by have := h.1 a ha; simp; omega
      have e2 : t.filter (fun p => !decide (p.1 < k)) = t := List.filter_eq_self.2 fun a ha => by have := h.1 a ha; simp; omega
      rw [List.filter_cons, if_neg (by simpa using c), List.filter_cons, if_pos (by simpa using c), e, e2]
      exact ⟨rfl, fun b hb => by simp at hb; rw [← hb]; exact c⟩
/-- Is a key there, by the list? -/
def hasL (k : Int) (L : List (Int × Int)) : Bool := ((L.filter (fun p => !decide (p.1 < k))).head?.map fun b => b.1 == k).getD false
theorem find_srt (k : Int) (L : List (Int × Int)) (hl : L.length ≤ 100000) (hs : L.Pairwise fun a b => a.1 < b.1) : Ev (fun n => waystoneref04_find.f n (encT L) k) (((lowL k L).length : Int), hasL k L) := by
  obtain ⟨h1, h2⟩ := cut_list k L hs
  have := find_ev k (lowL k L) (L.filter (fun p => !decide (p.1 < k))) (by rw [← h1]; exact hl) (fun a ha => by simpa using (List.mem_filter.1 ha).2) h2
  rw [← h1] at this
  exact this
theorem low_le (k : Int) (L : List (Int × Int)) : (lowL k L).length ≤ L.length := List.length_filter_le _ _
theorem ceil_ev (k : Int) (L : List (Int × Int)) (hl : L.length ≤ 100000) (hs : L.Pairwise fun a b => a.1 < b.1) : Ev (fun n => waystoneref04_Ceil.f n (encT L) k) (if (lowL k L).length = L.length then (-1 : Int) else ((lowL k L).length : Int)) := by
  unfold waystoneref04_Ceil.f
  refine Ev.bind (find_srt k L hl hs) ?_
  rw [encT_len]
  by_cases c : (lowL k L).length = L.length
  · simp only [c, if_true]; exact Ev.now _
  · simp only [c, show ¬ (((lowL k L).length : Nat) : Int) = (L.length : Int) by omega, if_false]; exact Ev.now _
theorem floor_ev (k : Int) (L : List (Int × Int)) (hl : L.length ≤ 100000) (hs : L.Pairwise fun a b => a.1 < b.1) : Ev (fun n => waystoneref04_Floor.f n (encT L) k) (if hasL k L then ((lowL k L).length : Int) else ((lowL k L).length : Int) - 1) := by
  unfold waystoneref04_Floor.f
  refine Ev.bind (find_srt k L hl hs) ?_
  have hle := low_le k L
  have hw : wrap64 (((lowL k L).length : Int) - 1) = ((lowL k L).length : Int) - 1 := by unfold wrap64; omega
  cases hasL k L with
  | true => simp only [if_true]; exact Ev.now _
  | false => simp only [Bool.false_eq_true, if_false, hw]; exact Ev.now _
end Go.Proofs.Ytbiccahkniadfaa.H
