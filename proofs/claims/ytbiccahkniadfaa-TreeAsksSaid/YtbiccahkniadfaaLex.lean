/- A cheaper way to see that a region may be walked in the order of its text: for great regions. -/
import Derived.Deep.QuietTactic
import Derived.KernelRfl
namespace Go.Proofs.Ytbiccahkniadfaa.H
/-- From operation k on. -/
def lexGo (md : Region.Mode) (ops : Array Oper) : List Oper → Nat → Bool
  | [], _ => true
  | o :: rest, k => (o.after.all fun e => !Region.binds md e || decide (e.on < k)) && ((rest.all fun oj => oj.after.any (fun e => Region.binds md e && e.on == k) || o.apart ops oj) && lexGo md ops rest (k + 1))
def lexFast (md : Region.Mode) (ops : Array Oper) : Bool := Region.noSelect ops && lexGo md ops ops.toList 0
theorem lexGo_from {md : Region.Mode} {ops : Array Oper} : ∀ (l : List Oper) (k : Nat) (listed : Array Bool), (∀ j, l[j]? = ops[k + j]?) → k + l.length = ops.size → listed.size = ops.size → (∀ j, j < ops.size → listed.getD j true = decide (j < k)) → lexGo md ops l k = true → Region.lexFrom md ops l.length k listed = true
  | [], k, listed, hl, hk, hs, hL, h => by
    simp only [List.length_nil, Nat.add_zero] at hk
    subst hk
    simp only [List.length_nil, Region.lexFrom, Region.ready, List.isEmpty_iff, List.filter_eq_nil_iff, List.mem_range]
    intro j hj
    rw [hL j hj, decide_eq_true hj]
    simp
  | o :: rest, k, listed, hl, hk, hs, hL, h => by
    simp only [List.length_cons] at hk
    have h0 : ops[k]? = some o := by simpa using (hl 0).symm
    have hkn : k < ops.size := by omega
    simp only [lexGo, Bool.and_eq_true] at h
    obtain ⟨h1, h2, h3⟩ := h
    have hL0 : ∀ j, j < ops.size → listed.getD j false = decide (j < k) := fun j hj => by
      have := hL j hj
      simp only [Array.getD_eq_getD_getElem?, Array.getElem?_eq_getElem (show j < listed.size by omega), Option.getD_some] at this ⊢
      exact this
    simp only [List.length_cons, Region.lexFrom, Bool.and_eq_true]
    refine ⟨⟨?_, ?_⟩, ?_⟩
    · simp only [Region.ready, List.contains_iff_mem, List.mem_filter, List.mem_range]
      refine ⟨hkn, ?_⟩
      rw [hL k hkn, h0]
      simp only [Nat.lt_irrefl, decide_false, Bool.not_false, Bool.true_and, Option.map_some, Option.getD_some]
      rw [Array.all_eq_true'] at h1 ⊢
      intro e he
      have := h1 e he
      cases hb : Region.binds md e with
      | false => rfl
      | true =>
        rw [hb] at this
        have hlt : e.on < k := by simpa using this
        rw [hL0 e.on (by omega), decide_eq_true hlt]
        rfl
    · simp only [Region.free, h0, List.all_eq_true, List.mem_range]
      intro j hj
      by_cases e1 : j = k
      · subst e1; simp
      · by_cases e2 : j < k
        · rw [hL j hj, decide_eq_true e2]; simp
        · have hr : rest[j - (k + 1)]? = ops[j]? := by
            have := hl (j - k)
            rw [show j - k = (j - (k + 1)) + 1 by omega, List.getElem?_cons_succ] at this
            rw [this]
            congr 1
            omega
          rw [Array.getElem?_eq_getElem hj] at hr
          have hm := List.mem_of_getElem? hr
          rw [List.all_eq_true] at h2
          have := h2 _ hm
          rw [Array.getElem?_eq_getElem hj]
          simp only [Bool.or_eq_true] at this ⊢
          exact .inr this
    · refine lexGo_from rest (k + 1) _ (fun j => ?_) (by omega) (by rw [Array.size_setIfInBounds]; exact hs) (fun j hj => ?_) h3
      · have := hl (j + 1)
        rw [List.getElem?_cons_succ] at this
        rw [this]
        congr 1
        omega
      · simp only [Array.getD_eq_getD_getElem?, Array.getElem?_setIfInBounds]
        by_cases e : k = j
        · subst e
          simp [hs, hkn]
        · rw [if_neg e]
          have := hL j hj
          simp only [Array.getD_eq_getD_getElem?] at this
          rw [this]
          congr 1
          simp only [eq_iff_iff]
          omega
theorem lexB_fast {md : Region.Mode} {ops : Array Oper} (h : lexFast md ops = true) : Region.lexB md ops = true := by
  simp only [lexFast, Bool.and_eq_true] at h
  simp only [Region.lexB, Bool.and_eq_true]
  refine ⟨h.1, ?_⟩
  have := lexGo_from (md := md) ops.toList 0 (Array.replicate ops.size false) (fun j => by simp) (by simp) (by simp) (fun j hj => by simp [Array.getD_eq_getD_getElem?, hj]) h.2
  simpa using this
end Go.Proofs.Ytbiccahkniadfaa.H
