/- List: walked; the numbers of a set in order. -/
import Derived.Test.YtdhkhbejedndoaaDoorBit9
namespace Go.Proofs.YtdhkhbejedndoaaDoor.H
open Go.RowKit Go.Proofs.YtdhkhbejedndoaaDoor.P Go.Proofs.YtdhkhbejedndoaaDoorW.PrintWords Go.Proofs.YtdhkhbejedndoaaDoorW.PrintLast Go.Proofs.YtdhkhbejedndoaaDoorW.PrintMore
set_option linter.unusedVariables false
set_option linter.unusedSimpArgs false
def idxF (f : Nat → Bool) : Nat → Nat → List Int
  | _, 0 => []
  | k, d + 1 => if f k then (k : Int) :: idxF f (k + 1) d else idxF f (k + 1) d
def listM (m : List Bool) : List Int := idxF (fun p => m.getD p false) 0 m.length
theorem idxF_len (f : Nat → Bool) : ∀ d k, (idxF f k d).length ≤ d
  | 0, k => Nat.le_refl _
  | d + 1, k => by have := idxF_len f d (k + 1); rw [idxF]; split <;> (try rw [List.length_cons]) <;> omega
theorem idxF_none (f : Nat → Bool) : ∀ d k, (∀ p, k ≤ p → p < k + d → f p = false) → idxF f k d = []
  | 0, k, _ => rfl
  | d + 1, k, h => by
    rw [idxF, h k (by omega) (by omega)]
    exact idxF_none f d (k + 1) (fun p h1 h2 => h p (by omega) (by omega))
theorem idxF_hit (f : Nat → Bool) : ∀ e k d, e < d → f (k + e) = true → (∀ u, u < e → f (k + u) = false) → idxF f k d = ((k + e : Nat) : Int) :: idxF f (k + e + 1) (d - (e + 1))
  | 0, k, d, h, h1, h2 => by
    obtain ⟨d', rfl⟩ : ∃ d', d = d' + 1 := ⟨d - 1, by omega⟩
    rw [idxF, show f k = true from h1, if_pos rfl]
    rfl
  | e + 1, k, d, h, h1, h2 => by
    obtain ⟨d', rfl⟩ : ∃ d', d = d' + 1 := ⟨d - 1, by omega⟩
    rw [idxF, show f k = false from h2 0 (by omega), if_neg Bool.false_ne_true]
    rw [idxF_hit f e (k + 1) d' (by omega) (by rw [show k + 1 + e = k + (e + 1) by omega]; exact h1) (fun u hu => by rw [show k + 1 + u = k + (u + 1) by omega]; exact h2 _ (by omega))]
    rw [show k + 1 + e = k + (e + 1) by omega, show d' + 1 - (e + 1 + 1) = d' - (e + 1) by omega]
theorem nextM_cases (m : List Bool) (k : Nat) : (nextM m k = none ∧ ∀ p, k ≤ p → m.getD p false = false) ∨ ∃ e, nextM m k = some (k + e) ∧ k + e < m.length ∧ m.getD (k + e) false = true ∧ ∀ u, u < e → m.getD (k + u) false = false := by
  unfold nextM
  cases h : (List.range (m.length - k)).find? (fun d => m.getD (k + d) false) with
  | none =>
    refine .inl ⟨rfl, fun p hp => ?_⟩
    rw [List.find?_eq_none] at h
    by_cases hl : p < m.length
    · have := h (p - k) (List.mem_range.2 (by omega))
      rw [show k + (p - k) = p by omega] at this
      exact Bool.eq_false_iff.2 this
    · exact getD_out m p (by omega)
  | some e =>
    rw [List.find?_range_eq_some] at h
    obtain ⟨h1, h2, h3⟩ := h
    refine .inr ⟨e, rfl, by have := List.mem_range.1 h2; omega, h1, fun u hu => ?_⟩
    have := h3 u hu
    simpa using this
theorem list_none (m : List Bool) (k : Nat) (h : nextM m k = none) : idxF (fun p => m.getD p false) k (m.length - k) = [] := by
  rcases nextM_cases m k with ⟨_, h2⟩ | ⟨e, h1, _⟩
  · exact idxF_none _ _ _ (fun p hp _ => h2 p hp)
  · rw [h] at h1; cases h1
theorem list_some (m : List Bool) (k i : Nat) (h : nextM m k = some i) : i < m.length ∧ k ≤ i ∧ idxF (fun p => m.getD p false) k (m.length - k) = (i : Int) :: idxF (fun p => m.getD p false) (i + 1) (m.length - (i + 1)) := by
  rcases nextM_cases m k with ⟨h1, _⟩ | ⟨e, h1, h2, h3, h4⟩
  · rw [h] at h1; cases h1
  · rw [h] at h1
    cases h1
    refine ⟨h2, by omega, ?_⟩
    rw [idxF_hit (fun p => m.getD p false) e k (m.length - k) (by omega) h3 h4, show m.length - k - (e + 1) = m.length - (k + e + 1) by omega]
set_option maxRecDepth 20000 in
set_option maxHeartbeats 1600000 in
theorem List_any (m : List Bool) (P : Option Addr) (w : World) (h : SetAt w P m) (hm : m.length ≤ 1024) (hT : TabAt 0 Lib.deBruijn64tab w) :
    Calls Tryd.prog 19 #[.pointer P] w fun e w' => (∃ v, e = .returned v ∧ Kd.R (Kd.int .i64) 3 w' w.heap.size (fun _ => True) v (listM m)) ∧ Below w.heap.size w w' := by
  have HNX := Aside0.mk (fun (W : World) (i : Int) (hb : Below w.heap.size w W) => Next_any m P i W (h.below hb) hm (tab_below hT hb))
  have hn := Next_any m P 0 w h hm hT
  have HM := Aside0.mk hm
  clear h hm hT
  obtain ⟨r0, hr0⟩ : ∃ r, r = nextM m (0 : Int).toNat := ⟨_, rfl⟩
  rw [← hr0] at hn
  have HR0 := Aside0.mk hr0
  clear hr0
  go_enter Tryd.func19, Tryd.ntmps19
  go_wp2_with fail
  refine hn.mono ?_
  rintro e w1 ⟨rfl, hb⟩
  have HB := Aside0.mk hb
  clear hn hb
  unfold nextV
  go_wp2_with fail
  go_loopg [3, 4, 5] (m.length + 1) (fun kq s3 s4 s5 wr => ∃ (k : Nat) (out : List Int) (r : Option Nat), s4 = .int .i64 ((r.getD 0 : Nat) : Int) ∧ s5 = .bool r.isSome ∧ Aside0 (nextM m k = r) ∧ Aside0 (m.length - k < kq) ∧ Aside0 (listM m = out ++ idxF (fun p => m.getD p false) k (m.length - k)) ∧ Aside0 (out.length ≤ k) ∧ Aside0 (Kd.R (Kd.int .i64) 3 wr w.heap.size (fun _ => True) s3 out) ∧ Aside0 (Below w.heap.size w wr))
  case atStart => exact ⟨0, [], r0, rfl, rfl, ⟨HR0.out.symm⟩, ⟨by omega⟩, ⟨rfl⟩, ⟨Nat.le_refl _⟩, ⟨Kd.R_nil _ _ _ _ _⟩, HB⟩
  case round =>
    obtain ⟨k, out, r, rfl, rfl, HK, HG, HL, HOL, HO, HBW⟩ := hrel
    cases r with
    | none =>
      have HE := Aside0.mk (show listM m = out from by rw [HL.out, list_none m k HK.out, List.append_nil])
      go_wp2_with fail
      go_ret
      exact ⟨⟨_, rfl, by rw [HE.out]; exact HO.out⟩, HBW.out⟩
    | some i =>
      obtain ⟨hi, hki, hll⟩ := list_some m k i HK.out
      have hi2 : i < 1024 := Nat.lt_of_lt_of_le hi HM.out
      have HIK := Aside0.mk (And.intro hi hki)
      have HLL := Aside0.mk hll
      have hout : out.length ≤ 1024 := by have := HOL.out; omega
      have HOUT := Aside0.mk hout
      obtain ⟨A3, c3, rfl⟩ := Kd.R_slice HO.out
      clear hi hki hll hout
      simp only [Option.getD_some, Option.isSome_some]
      go_wp2_with (first
        | ((with_reducible refine gate_builtin (b := .append) (xs := #[.tmp 19, .tmp 21]) rfl ?_); at_builtin; refine Kd.R_append (Kd.int .i64) (w0 := w) w.heap.size rfl (.tmp 19) (.tmp 21) 22 3 (.int .i64 0) 8 rfl Tryd.underlying22 info3 rfl (by decide) (by omega) (.slice A3 out.length c3) out (i : Int) [.int .i64 (i : Int)] (fun _ => True) (fun _ => False) rfl rfl ?aP (fun _ hk => hk.elim) ?aF ?aO ?aB ?aS ?aL ?_; (case aP => exact rfl); (case aB => exact HBW.out); (case aF => exact (fun _ _ => trivial)); (case aO => exact HO.out); (case aS => exact HBW.out.size); (case aL => have := HOUT.out; omega); intro v2 w2 ho hb hg hat; have HO2 := Aside0.mk ho; have HB2 := Aside0.mk hb; clear ho hb hg hat))
      have hnx := HNX.out w2 ((i : Int) + 1) HB2.out
      rw [show ((i : Int) + 1).toNat = i + 1 by omega] at hnx
      obtain ⟨r1, hr1⟩ : ∃ r, r = nextM m (i + 1) := ⟨_, rfl⟩
      rw [← hr1] at hnx
      have HR1 := Aside0.mk hr1
      clear hr1
      refine hnx.mono ?_
      rintro e w3 ⟨rfl, hb⟩
      have HB3 := Aside0.mk (HB2.out.trans (hb.mono HB2.out.size))
      have HO3 := Aside0.mk (Kd.R_below HO2.out hb)
      clear hnx hb
      unfold nextV
      go_wp2_with fail
      go_roundg (gk - 1)
      case measure => have := HG.out; have := HIK.out; omega
      case rel =>
        refine ⟨i + 1, out ++ [(i : Int)], r1, rfl, rfl, ⟨HR1.out.symm⟩, ⟨by have := HG.out; have := HIK.out; omega⟩, ⟨?_⟩, ⟨?_⟩, HO3, HB3⟩
        · rw [HL.out, HLL.out, List.append_assoc]; rfl
        · rw [List.length_append, List.length_singleton]; have := HOL.out; have := HIK.out; omega
end Go.Proofs.YtdhkhbejedndoaaDoor.H
