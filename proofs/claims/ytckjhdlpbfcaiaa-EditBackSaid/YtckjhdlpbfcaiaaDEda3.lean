/- Eda3. -/
import Derived.Test.YtckjhdlpbfcaiaaDEda2
import Derived.Deep.AppendSrc
import Derived.Deep.RegionLaw
namespace Go.Proofs.Ytckjhdlpbfcaiaa.H
open Go.RowKit Go.Proofs.Ytckjhdlpbfcaiaa.P Go.Proofs.YtckjhdlpbfcaiaaW.PrintWords Go.Proofs.YtckjhdlpbfcaiaaW.PrintLast Go.Proofs.YtckjhdlpbfcaiaaW.PrintMore
set_option linter.unusedVariables false
set_option linter.unusedSimpArgs false
set_option maxRecDepth 20000
theorem rflat_append (a b : List Rul) : rflat (a ++ b) = rflat a ++ rflat b := by unfold rflat; rw [List.flatMap_append]
theorem own_of {w : World} {B g cap : Nat} {cur : Array Value} {l : List Rul} (hB : B ≤ g) (hb : w.heap[g]? = some (.cells cur 35 (0, 0))) (hs : cur.size = cap * 7) (hn : l.length ≤ cap) (hm : cap ≤ maxLen)
    (h : ∀ (k : Nat) (u : Value), (rflat l)[k]? = some u → cur[k]? = some u) : OwnR B (.slice (some ⟨g, 0, none⟩) l.length cap) l w := by
  refine ⟨rflat_len l, .inr ⟨g, cap, cur, rfl, hB, hb, hn, hm, hs, ?_⟩⟩
  have hl := rflat_len l
  apply List.ext_getElem?
  intro k
  by_cases hk : k < l.length * 7
  · rw [List.getElem?_take_of_lt hk]
    have h1 : k < (rflat l).length := by omega
    have h2 := h k _ (List.getElem?_eq_getElem h1)
    rw [List.getElem?_eq_getElem h1, Array.getElem?_toList]
    exact h2
  · rw [List.getElem?_eq_none (by rw [List.length_take]; omega), List.getElem?_eq_none (by omega)]
theorem own_at {w : World} {B g cap n : Nat} {l : List Rul} (h : OwnR B (.slice (some ⟨g, 0, none⟩) n cap) l w) : ∃ cur : Array Value, B ≤ g ∧ w.heap[g]? = some (.cells cur 35 (0, 0)) ∧ cur.size = cap * 7 ∧ l.length ≤ cap ∧ cap ≤ maxLen ∧ ∀ (k : Nat) (u : Value), (rflat l)[k]? = some u → cur[k]? = some u := by
  obtain ⟨h1, ⟨e, _⟩ | ⟨g', cap', cur, e, h2, h3, h4, h5, h6, h7⟩⟩ := h
  · cases e
  · simp only [Value.slice.injEq, Option.some.injEq, Addr.mk.injEq] at e
    obtain ⟨⟨rfl, _⟩, _, rfl⟩ := e
    refine ⟨cur, h2, h3, h6, h4, h5, fun k u hu => ?_⟩
    rw [← h7] at hu
    have hk := (List.getElem?_eq_some_iff.1 hu).1
    rw [List.length_take] at hk
    rw [List.getElem?_take_of_lt (by omega), Array.getElem?_toList] at hu
    exact hu
theorem run_clear_rows {P : Program} (w : World) (t e ty : TypeId) (z : Value) (ht : P.underlying t = some (.slice e)) (hv : ∀ w, (zeroValue e).run P w = .ok z w) (h1 : ∀ v ∈ z.cells.toList, v.oneCell' = true) (b o n c : Nat) (hn : 0 < n)
    (hc : ∀ j, j < n * z.cells.size → (w.cell? ⟨b, o + j, none⟩).isSome = true) (hf : ∀ j, j < n * z.cells.size → w.frozen? ⟨b, o + j, none⟩ = false) :
    (Builtin.clear_ #[t] ty #[.slice (some ⟨b, o, none⟩) n c]).run P w = .ok (.tuple #[]) (w.setCells b o (Builtin.zeroCells z.cells n).toList) := by
  have hlen : (Builtin.zeroCells z.cells n).toList.length = n * z.cells.size := by simp [Builtin.zeroCells]
  have hone : ∀ v ∈ (Builtin.zeroCells z.cells n).toList, v.oneCell' = true := by
    intro v hv'
    simp [Builtin.zeroCells] at hv'
    obtain ⟨i, hi, rfl⟩ := hv'
    have hp : 0 < z.cells.size := by
      rcases Nat.eq_zero_or_pos z.cells.size with h | h
      · rw [h] at hi; omega
      · exact h
    have hm := Nat.mod_lt i hp
    rw [getElem!_pos z.cells (i % z.cells.size) hm]
    exact h1 _ (by simp)
  have hst := run_storeCells_cells (P := P) b o (Builtin.zeroCells z.cells n).toList 0 w (fun j hj => by rw [hlen] at hj; exact hc j hj) (fun j hj => by rw [hlen] at hj; exact hf j hj) hone
  simp only [Nat.add_zero] at hst
  obtain ⟨m, rfl⟩ : ∃ m, n = m + 1 := ⟨n - 1, by omega⟩
  simp [Builtin.clear_, run_underlying ht, hv, hst]
theorem zeroR (w : World) : (zeroValue 35).run Try.prog w = .ok (encR ⟨0, 0, 0, 0, ⟨0, 0⟩, 0⟩) w := by kernel_rfl
theorem del_cells {cur : Array Value} {cap i j : Nat} {l : List Rul} (hs : cur.size = cap * 7) (hi : i < l.length) (hj : j = i + 1) (hn : l.length ≤ cap) (hcs : ∀ (k : Nat) (u : Value), (rflat l)[k]? = some u → cur[k]? = some u) :
    ∀ (k : Nat) (u : Value), (rflat (l.take i ++ l.drop j))[k]? = some u → (laidAt cur (i * 7) (rflat (l.drop j)))[k]? = some u := by
  intro k u hu
  have ht : (rflat (l.take i)).length = i * 7 := by rw [rflat_len, List.length_take]; omega
  have hd : (rflat (l.drop j)).length = (l.length - j) * 7 := by rw [rflat_len, List.length_drop]
  have e : rflat l = rflat (l.take i) ++ rflat (l.drop i) := by rw [← rflat_append, List.take_append_drop]
  rw [rflat_append] at hu
  by_cases hk : k < i * 7
  · rw [List.getElem?_append_left (by omega)] at hu
    rw [laidAt_other _ _ _ _ (.inl hk)]
    apply hcs
    rw [e, List.getElem?_append_left (by omega)]
    exact hu
  · rw [List.getElem?_append_right (by omega), ht] at hu
    have h := laidAt_at (rflat (l.drop j)) cur (i * 7) (k - i * 7) u (by rw [hd]; omega) hu
    rw [show i * 7 + (k - i * 7) = k by omega] at h
    exact h
set_option maxHeartbeats 4000000 in
theorem del_any (B g cap i j : Nat) (l : List Rul) (w : World) (hown : OwnR B (.slice (some ⟨g, 0, none⟩) l.length cap) l w) (hi : i < l.length) (hj : j = i + 1) (hBw : B ≤ w.heap.size) (hc63 : cap ≤ 9223372036854775807) :
    Calls Try.prog 47 #[.slice (some ⟨g, 0, none⟩) l.length cap, .int .i64 (i : Nat), .int .i64 (j : Nat)] w fun e w' => ∃ v, e = .returned v ∧ OwnR B v (l.take i ++ l.drop j) w' ∧ Below B w w' := by
  obtain ⟨cur, hBg, hb, hs, hn, hm, hcs⟩ := own_at hown
  obtain ⟨i0, hi0, hz0, hz1, hz2⟩ := info_parts info35
  have hij : ((i : Int) == (j : Int)) = false := by rw [beq_eq_false_iff_ne]; omega
  have hij2 : ¬ (i : Int) = (j : Int) := by omega
  have h1 : (0 : Int) ≤ (i : Int) := by omega
  have h2 : (i : Int) ≤ (j : Int) := by omega
  have h3 : (j : Int) ≤ (l.length : Int) := by omega
  have h4 : (l.length : Int) ≤ (cap : Int) := by omega
  have h5 : (i : Int) ≤ (cap : Int) := by omega
  have hcell : ∀ (k : Nat) (u : Value), (rflat l)[k]? = some u → w.cell? ⟨g, k, none⟩ = some u := fun k u hu => by rw [blk_cell hb]; exact hcs k u hu
  have hdl : (rflat (l.drop j)).length = (l.length - j) * 7 := by rw [rflat_len, List.length_drop]
  have hdrop : ∀ (k : Nat) (u : Value), (rflat (l.drop j))[k]? = some u → (rflat l)[j * 7 + k]? = some u := fun k u hu => by
    have e : rflat l = rflat (l.take j) ++ rflat (l.drop j) := by rw [← rflat_append, List.take_append_drop]
    have hl : (rflat (l.take j)).length = j * 7 := by rw [rflat_len, List.length_take]; omega
    rw [e, List.getElem?_append_right (by omega), hl, show j * 7 + k - j * 7 = k by omega]
    exact hu
  have HB1 := Aside0.mk (below_cells hBg (rflat (l.drop j)) (i * 7) (below_drew (Below.refl B w)))
  have HL1 := Aside0.mk (setCells_laid (rflat (l.drop j)) (i * 7) (blk_drew hb))
  have HCL := Aside0.mk hcell
  have HDL := Aside0.mk hdl
  have HDR := Aside0.mk hdrop
  have HSP := Aside0.mk (show ∀ k, k < cap * 7 → (w.drew.cell? ⟨g, k, none⟩).isSome = true ∧ w.drew.frozen? ⟨g, k, none⟩ = false from fun k hk => by
    refine ⟨?_, blk_frozen (blk_drew hb) k⟩
    rw [blk_cell (blk_drew hb), Array.getElem?_eq_getElem (by omega)]; rfl)
  have HCS := Aside0.mk hcs
  have HSZ := Aside0.mk (show cur.size = cap * 7 ∧ l.length ≤ cap ∧ cap ≤ maxLen ∧ B ≤ g from ⟨hs, hn, hm, hBg⟩)
  have HJ := Aside0.mk hj
  have HI := Aside0.mk hi
  have hnn : i + (l.length - j) = l.length - 1 := by omega
  have HNN := Aside0.mk hnn
  clear hown hj hi hcell hdl hdrop hb hs hn hm hcs hBg hnn
  go_enter Try.func47, Try.ntmps47
  go_wp2_with fail
  by_cases hjc : j < cap
  · have hjc1 : ¬ (cap = j) := by omega
    have hjc2 : ¬ (j = cap) := by omega
    have hjc3 : (j : Int) ≤ (cap : Int) := by omega
    go_region_law (refine step_append_room rfl (.tmp 22) (.tmp 25) 22 rfl 35 i0 7 Try.underlying22 hi0 hz1 g 0 i cap (by simp [Act.eval, Act.put]) ⟨g, j * 7, none⟩ (l.length - j) (cap - j) (rflat (l.drop j)) (by simp [Act.eval, Act.put]) HDL.out (fun k u hu => by rw [Addr.add_lit]; exact HCL.out _ _ (HDR.out k u hu)) (rflat_one _) (by have := HSZ.out; have := HJ.out; have := HI.out; omega) (fun k hk => HSP.out _ (by have := HSZ.out; have := HJ.out; have := HI.out; have := HDL.out; omega)) ?_)
    rw [HNN.out]
    generalize (w.drew.setCells g (i * 7) (rflat (List.drop j l))) = W1 at *
    have HN1 := Aside0.mk (show l.length - 1 + 1 = l.length from by have := HI.out; omega)
    have HOW := Aside0.mk (del_cells HSZ.out.1 HI.out HJ.out HSZ.out.2.1 HCS.out)
    generalize l.length - 1 = n1 at *
    have hcl : ∀ ty c', (Builtin.clear_ #[22] ty #[.slice (some ⟨g, n1 * 7, none⟩) (l.length - n1) c']).run Try.prog W1 = .ok (.tuple #[]) (W1.setCells g (n1 * 7) (Builtin.zeroCells (encR ⟨0, 0, 0, 0, ⟨0, 0⟩, 0⟩).cells (l.length - n1)).toList) := by
      intro ty c'
      have hn1 := HN1.out
      have hsz := HSZ.out
      refine run_clear_rows W1 22 35 ty (encR ⟨0, 0, 0, 0, ⟨0, 0⟩, 0⟩) Try.underlying22 zeroR (by decide) g (n1 * 7) _ _ (by omega) (fun j hj => ?_) (fun j hj => ?_)
      · rw [show (encR ⟨0, 0, 0, 0, ⟨0, 0⟩, 0⟩).cells.size = 7 from rfl] at hj
        rw [blk_cell HL1.out, Array.getElem?_eq_getElem (by rw [laidAt_size]; omega)]; rfl
      · exact blk_frozen HL1.out _
    have HFI := Aside0.mk (setCells_laid (Builtin.zeroCells (encR ⟨0, 0, 0, 0, ⟨0, 0⟩, 0⟩).cells (l.length - n1)).toList (n1 * 7) HL1.out)
    have HB2 := Aside0.mk (below_cells HSZ.out.2.2.2 (Builtin.zeroCells (encR ⟨0, 0, 0, 0, ⟨0, 0⟩, 0⟩).cells (l.length - n1)).toList (n1 * 7) HB1.out)
    have h6 : (n1 : Int) ≤ (l.length : Int) := by have := HN1.out; omega
    have h7 : (0 : Int) ≤ (n1 : Int) := by omega
    have h8 : ¬ (cap = n1) := by have := HN1.out; have := HSZ.out; omega
    have h9 : ¬ (n1 = cap) := by omega
    generalize (W1.setCells g (n1 * 7) (Builtin.zeroCells (encR ⟨0, 0, 0, 0, ⟨0, 0⟩, 0⟩).cells (l.length - n1)).toList) = W2 at *
    clear hij hij2 h1 h2 h3
    go_wp2_with fail
    go_ret
    refine ⟨_, rfl, ?_, HB2.out⟩
    have hn1 := HN1.out
    have hll : (l.take i ++ l.drop j).length = n1 := by have := HI.out; have := HJ.out; simp; omega
    rw [← hll]
    refine own_of HSZ.out.2.2.2 HFI.out (by rw [laidAt_size, laidAt_size]; exact HSZ.out.1) (by have := HSZ.out; omega) HSZ.out.2.2.1 (fun k u hu => ?_)
    have hk := (List.getElem?_eq_some_iff.1 hu).1
    rw [rflat_len, hll] at hk
    rw [laidAt_other _ _ _ _ (.inl hk)]
    exact HOW.out k u hu
  · have hje : j = cap := by have := HSZ.out; have := HJ.out; have := HI.out; omega
    subst hje
    go_region_law (refine step_append_room rfl (.tmp 22) (.tmp 25) 22 rfl 35 i0 7 Try.underlying22 hi0 hz1 g 0 i j (by simp [Act.eval, Act.put]) ⟨g, 0, none⟩ (l.length - j) 0 (rflat (l.drop j)) (by simp [Act.eval, Act.put]) HDL.out (fun k u hu => by have := (List.getElem?_eq_some_iff.1 hu).1; have := HDL.out; have := HSZ.out; omega) (rflat_one _) (by have := HSZ.out; have := HJ.out; have := HI.out; omega) (fun k hk => HSP.out _ (by have := HSZ.out; have := HJ.out; have := HI.out; have := HDL.out; omega)) ?_)
    rw [HNN.out]
    generalize (w.drew.setCells g (i * 7) (rflat (List.drop j l))) = W1 at *
    have HN1 := Aside0.mk (show l.length - 1 + 1 = l.length from by have := HI.out; omega)
    have HOW := Aside0.mk (del_cells HSZ.out.1 HI.out HJ.out HSZ.out.2.1 HCS.out)
    generalize l.length - 1 = n1 at *
    have hcl : ∀ ty c', (Builtin.clear_ #[22] ty #[.slice (some ⟨g, n1 * 7, none⟩) (l.length - n1) c']).run Try.prog W1 = .ok (.tuple #[]) (W1.setCells g (n1 * 7) (Builtin.zeroCells (encR ⟨0, 0, 0, 0, ⟨0, 0⟩, 0⟩).cells (l.length - n1)).toList) := by
      intro ty c'
      have hn1 := HN1.out
      have hsz := HSZ.out
      refine run_clear_rows W1 22 35 ty (encR ⟨0, 0, 0, 0, ⟨0, 0⟩, 0⟩) Try.underlying22 zeroR (by decide) g (n1 * 7) _ _ (by omega) (fun j hj => ?_) (fun j hj => ?_)
      · rw [show (encR ⟨0, 0, 0, 0, ⟨0, 0⟩, 0⟩).cells.size = 7 from rfl] at hj
        rw [blk_cell HL1.out, Array.getElem?_eq_getElem (by rw [laidAt_size]; omega)]; rfl
      · exact blk_frozen HL1.out _
    have HFI := Aside0.mk (setCells_laid (Builtin.zeroCells (encR ⟨0, 0, 0, 0, ⟨0, 0⟩, 0⟩).cells (l.length - n1)).toList (n1 * 7) HL1.out)
    have HB2 := Aside0.mk (below_cells HSZ.out.2.2.2 (Builtin.zeroCells (encR ⟨0, 0, 0, 0, ⟨0, 0⟩, 0⟩).cells (l.length - n1)).toList (n1 * 7) HB1.out)
    have h6 : (n1 : Int) ≤ (l.length : Int) := by have := HN1.out; omega
    have h7 : (0 : Int) ≤ (n1 : Int) := by omega
    have h8 : ¬ (j = n1) := by have := HN1.out; have := HSZ.out; omega
    have h9 : ¬ (n1 = j) := by omega
    generalize (W1.setCells g (n1 * 7) (Builtin.zeroCells (encR ⟨0, 0, 0, 0, ⟨0, 0⟩, 0⟩).cells (l.length - n1)).toList) = W2 at *
    clear hij hij2 h1 h2 h3
    go_wp2_with fail
    go_ret
    refine ⟨_, rfl, ?_, HB2.out⟩
    have hn1 := HN1.out
    have hll : (l.take i ++ l.drop j).length = n1 := by have := HI.out; have := HJ.out; simp; omega
    rw [← hll]
    refine own_of HSZ.out.2.2.2 HFI.out (by rw [laidAt_size, laidAt_size]; exact HSZ.out.1) (by have := HSZ.out; omega) HSZ.out.2.2.1 (fun k u hu => ?_)
    have hk := (List.getElem?_eq_some_iff.1 hu).1
    rw [rflat_len, hll] at hk
    rw [laidAt_other _ _ _ _ (.inl hk)]
    exact HOW.out k u hu
end Go.Proofs.Ytckjhdlpbfcaiaa.H
