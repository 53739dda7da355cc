/- Eda4, Eda5. -/
import Derived.Test.YtckjhdlpbfcaiaaDEda3
import Derived.Lib.Overlaps
import Derived.Lib.AppendZerosOnto
import Derived.Laws.Externs
import Derived.Maps.AppendAt
/-! ### Eda4 -/
namespace Go.Proofs.Ytckjhdlpbfcaiaa.H
open Go.RowKit Go.Proofs.Ytckjhdlpbfcaiaa.P Go.Proofs.YtckjhdlpbfcaiaaW.PrintWords Go.Proofs.YtckjhdlpbfcaiaaW.PrintLast Go.Proofs.YtckjhdlpbfcaiaaW.PrintMore
set_option linter.unusedVariables false
set_option linter.unusedSimpArgs false
set_option maxRecDepth 100000
theorem wrap_of4 {x : Int} (h0 : 0 ≤ x) (h1 : x ≤ 1000000) : wrap64 x = x := by unfold wrap64; omega
theorem run_copy_rows {P : Program} (w : World) (dT sT ty elem : TypeId) (b o dLen dCap : Nat) (a : Addr) (sLen sCap n size : Nat) (cs : List Value)
    (hu : P.underlying dT = some (.slice elem)) (hs : (P.info? elem).map (·.size) = some size) (hn : n = Nat.min sLen dLen) (hcl : cs.length = n * size)
    (hsrc : ∀ (j : Nat) (v : Value), cs[j]? = some v → w.cell? (a.add j) = some v) (hc : ∀ j, j < cs.length → (w.cell? ⟨b, o + j, none⟩).isSome = true) (hf : ∀ j, j < cs.length → w.frozen? ⟨b, o + j, none⟩ = false) (h1 : ∀ v ∈ cs, v.oneCell' = true) :
    (Builtin.copy_ #[dT, sT] ty #[.slice (some ⟨b, o, none⟩) dLen dCap, .slice (some a) sLen sCap]).run P w = .ok (goInt n) (w.setCells b o cs) := by
  have hl := run_loadCells_list (P := P) w a cs hsrc
  have hst := run_storeCells_cells (P := P) b o cs 0 w (by simpa using hc) (by simpa using hf) h1
  cases hq : P.info? elem with
  | none => simp [hq] at hs
  | some i =>
    have hi : i.size = size := by simpa [hq] using hs
    rw [hcl] at hl
    simp [Builtin.copy_, run_underlying hu, Builtin.lenOf, Builtin.firstCells, sizeOf, typeInfo, hq, hi, ← hn, hl, hst]
theorem step_copy_run4 {P : Program} {ops : Array Oper} {o : Oper} {a : Act} {w : World} {K : Act → World → Prop} {Q : Exit → Act → World → Prop} {E : Prop}
    (hg : o.guard = none) (d x : Operand) (dT sT : TypeId) (hop : o.op = Op.call { callee := Callee.builtin Builtin.copy, args := #[d, x], argTypes := #[dT, sT] })
    (v u : Value) (hd : a.eval d = v) (hx : a.eval x = u) {v' : Value} {w' : World} (hr : (Builtin.copy_ #[dT, sT] o.type #[v, u]).run P w = .ok v' w') (hK : K (a.put o.dst v') w') :
    if Region.wanted o (yielded ops a.tmps) = true then Oper.wp P o a w K Q else E := by
  have hw : Region.wanted o (yielded ops a.tmps) = true := by simp [Region.wanted, hg]
  rw [if_pos hw]
  unfold Oper.wp
  simp [execOp, hop, resolve, invoke, builtin, hd, hx, hr, Result.andThen]
  exact hK
theorem wpList_builtin_run4 {P : Program} (w : World) {ops : Array Oper} {rest : List Oper} {o : Oper} {a : Act} {Q : Exit → Act → World → Prop} (hgd : o.guard = none) (d s : Operand) (t t' : TypeId)
    (ho : o.op = .call { callee := .builtin .copy, args := #[d, s], argTypes := #[t, t'] }) (v u : Value) (hd : a.eval d = v) (hs : a.eval s = u) {v' : Value} {w' : World}
    (hr : (Builtin.copy_ #[t, t'] o.type #[v, u]).run P w = .ok v' w') (h : wpList P ops Q rest (a.put o.dst v') w') : wpList P ops Q (o :: rest) a w :=
  wpList_plain hgd fun _ hK => by
    unfold Oper.wp execOp
    simp only [ho, resolve, invoke, builtin, Sem.run_bind, Sem.run_pure, Result.andThen_ok, List.map_toArray, List.map_cons, List.map_nil, hd, hs, hr]
    exact hK _ _ h
theorem ins_cells {cs1 : Array Value} {i : Nat} {l : List Rul} {r : Rul} (hi : i ≤ l.length)
    (h0 : ∀ (k : Nat) (u : Value), (rflat (l.take i))[k]? = some u → cs1[k]? = some u) (h1 : ∀ (k : Nat) (u : Value), (rcells r)[k]? = some u → cs1[i * 7 + k]? = some u)
    (h2 : ∀ (k : Nat) (u : Value), (rflat (l.drop i))[k]? = some u → cs1[(i + 1) * 7 + k]? = some u) :
    ∀ (k : Nat) (u : Value), (rflat (l.take i ++ r :: l.drop i))[k]? = some u → cs1[k]? = some u := by
  intro k u hu
  have ht : (rflat (l.take i)).length = i * 7 := by rw [rflat_len, List.length_take]; omega
  have hr : (rcells r).length = 7 := rfl
  rw [rflat_append, show rflat (r :: l.drop i) = rcells r ++ rflat (l.drop i) from rfl] at hu
  by_cases hk : k < i * 7
  · rw [List.getElem?_append_left (by omega)] at hu
    exact h0 k u hu
  · rw [List.getElem?_append_right (by omega), ht] at hu
    by_cases hk2 : k < i * 7 + 7
    · rw [List.getElem?_append_left (by omega)] at hu
      have h := h1 _ u hu
      rw [show i * 7 + (k - i * 7) = k by omega] at h
      exact h
    · rw [List.getElem?_append_right (by omega), hr] at hu
      have h := h2 _ u hu
      rw [show (i + 1) * 7 + (k - i * 7 - 7) = k by omega] at h
      exact h
set_option maxHeartbeats 4000000 in
theorem ins_room (B g cap i vb : Nat) (l : List Rul) (r : Rul) (w : World) (hown : OwnR B (.slice (some ⟨g, 0, none⟩) l.length cap) l w) (hv : w.heap[vb]? = some (.cells (rcells r).toArray 35 (0, 0))) (hne : vb ≠ g) (hi : i < l.length) (hlen : l.length ≤ 1000) (hroom : l.length + 1 ≤ cap) (hc63 : cap ≤ 9223372036854775807) :
    Calls Try.prog 45 #[.slice (some ⟨g, 0, none⟩) l.length cap, .int .i64 (i : Nat), .slice (some ⟨vb, 0, none⟩) 1 1] w fun e w' => ∃ v, e = .returned v ∧ OwnR B v (l.take i ++ r :: l.drop i) w' ∧ Below B w w' := by
  obtain ⟨cur, hBg, hb, hs, hn, hm, hcs⟩ := own_at hown
  obtain ⟨i0, hi0, hz0, hz1, hz2⟩ := info_parts info35
  have hii : ((i : Int) == (l.length : Int)) = false := by rw [beq_eq_false_iff_ne]; omega
  have hii2 : ¬ (i : Int) = (l.length : Int) := by omega
  have h1 : (0 : Int) ≤ (i : Int) := by omega
  have h2 : (i : Int) ≤ (l.length : Int) := by omega
  have h3 : ¬ ((cap : Int) < (l.length : Int) + 1) := by omega
  have h4 : (l.length : Int) + 1 ≤ (cap : Int) := by omega
  have h5 : ¬ (cap = i) := by omega
  have h6 : ¬ (cap = i + 1) := by omega
  have h9 : (i : Int) + 1 ≤ (l.length : Int) + 1 := by omega
  have h10 : (0 : Int) ≤ (i : Int) + 1 := by omega
  have h11 : (i : Int) ≤ (l.length : Int) + 1 := by omega
  have htn : ((i : Int) + 1).toNat = i + 1 := by omega
  have htm : ((l.length : Int) + 1).toNat = l.length + 1 := by omega
  have hov : ∀ lb cb, (callFunc 54 #[.slice (some ⟨vb, 0, none⟩) 1 1, .slice (some ⟨g, (i + 1) * 7, none⟩) lb cb]).run Try.prog w = .ok (.value (.bool false)) w := fun lb cb => by
    rw [run_callFunc_extern Try.func54 (by kernel_rfl) (by kernel_rfl) (by kernel_rfl) (e := Extern.SlicesOverlaps.overlaps #[22, 22] #[4]) (by kernel_rfl),
      Lib.run_overlaps_apart w 22 4 35 Try.underlying22 7 (fun w => by simp [sizeOf, typeInfo, hi0, hz1]) ⟨vb, 0, none⟩ ⟨g, (i + 1) * 7, none⟩ 1 1 lb cb hne 35 35 7 cur.size (by simp [World.shape?, hv, rcells]) (by simp [World.shape?, hb]) (by rw [hs]; omega) (blk_frozen hv 0) (blk_frozen hv 7)]
    rfl
  have HOW := Aside0.mk hown
  have HCUR := Aside0.mk (show B ≤ g ∧ w.heap[g]? = some (.cells cur 35 (0, 0)) ∧ cur.size = cap * 7 ∧ l.length ≤ cap ∧ cap ≤ maxLen from ⟨hBg, hb, hs, hn, hm⟩)
  have HCS := Aside0.mk hcs
  have HI := Aside0.mk hi
  have HLN := Aside0.mk (show l.length ≤ 1000 ∧ l.length + 1 ≤ cap from ⟨hlen, hroom⟩)
  have HV := Aside0.mk hv
  have hdl : (rflat (l.drop i)).length = (l.length - i) * 7 := by rw [rflat_len, List.length_drop]
  have hdrop : ∀ (k : Nat) (u : Value), (rflat (l.drop i))[k]? = some u → (rflat l)[i * 7 + k]? = some u := fun k u hu => by
    have e : rflat l = rflat (l.take i) ++ rflat (l.drop i) := by rw [← rflat_append, List.take_append_drop]
    have hl : (rflat (l.take i)).length = i * 7 := by rw [rflat_len, List.length_take]; omega
    rw [e, List.getElem?_append_right (by omega), hl, show i * 7 + k - i * 7 = k by omega]
    exact hu
  have hsize7 : (Try.prog.info? 35).map (·.size) = some 7 := by rw [hi0]; simp [hz1]
  have HCP1 := Aside0.mk (show ∀ ty dc sc, (Builtin.copy_ #[22, 22] ty #[.slice (some ⟨g, (i + 1) * 7, none⟩) (l.length - i) dc, .slice (some ⟨g, i * 7, none⟩) (l.length + 1 - i) sc]).run Try.prog w.drew = .ok (goInt ((l.length - i : Nat) : Int)) (w.drew.setCells g ((i + 1) * 7) (rflat (l.drop i))) from fun ty dc sc =>
    run_copy_rows w.drew _ _ ty 35 g ((i + 1) * 7) (l.length - i) dc ⟨g, i * 7, none⟩ (l.length + 1 - i) sc (l.length - i) 7 (rflat (l.drop i)) Try.underlying22 hsize7 (by simp only [Nat.min_def]; split <;> omega) hdl
      (fun j v hj => by rw [Addr.add_lit, blk_cell (blk_drew hb)]; exact hcs _ _ (hdrop j v hj))
      (fun j hj => by rw [blk_cell (blk_drew hb), Array.getElem?_eq_getElem (by omega)]; rfl) (fun j hj => blk_frozen (blk_drew hb) _) (rflat_one _))
  have HW1 := Aside0.mk (setCells_laid (rflat (l.drop i)) ((i + 1) * 7) (blk_drew hb))
  have HVW := Aside0.mk (show (w.drew.setCells g ((i + 1) * 7) (rflat (l.drop i))).heap[vb]? = some (.cells (rcells r).toArray 35 (0, 0)) from (heap_setCells_ne hne (rflat (l.drop i)) ((i + 1) * 7) w.drew).trans (blk_drew hv))
  have HB1 := Aside0.mk (below_cells hBg (rflat (l.drop i)) ((i + 1) * 7) (below_drew (Below.refl B w)))
  have HCP2 := Aside0.mk (show ∀ W, W.heap[g]? = some (.cells (laidAt cur ((i + 1) * 7) (rflat (l.drop i))) 35 (0, 0)) → W.heap[vb]? = some (.cells (rcells r).toArray 35 (0, 0)) → ∀ ty dc, (Builtin.copy_ #[22, 22] ty #[.slice (some ⟨g, i * 7, none⟩) (l.length + 1 - i) dc, .slice (some ⟨vb, 0, none⟩) 1 1]).run Try.prog W = .ok (goInt 1) (W.setCells g (i * 7) (rcells r)) from fun W h1 h2 ty dc =>
    run_copy_rows W _ _ ty 35 g (i * 7) (l.length + 1 - i) dc ⟨vb, 0, none⟩ 1 1 1 7 (rcells r) Try.underlying22 hsize7 (by simp only [Nat.min_def]; split <;> omega) rfl
      (fun j v hj => by rw [Addr.add_lit, blk_cell h2, Nat.zero_add, List.getElem?_toArray]; exact hj)
      (fun j hj => by rw [blk_cell h1, Array.getElem?_eq_getElem (by rw [laidAt_size]; have : (rcells r).length = 7 := rfl; omega)]; rfl) (fun j hj => blk_frozen h1 _) (rcells_one r))
  clear hdl hdrop hsize7
  obtain ⟨h7, h8⟩ : wrap64 ((l.length : Int) + 1) = (l.length : Int) + 1 ∧ wrap64 ((i : Int) + 1) = (i : Int) + 1 := ⟨wrap_of4 (by omega) (by omega), wrap_of4 (by omega) (by omega)⟩
  clear hown hBg hb hs hn hm hcs hlen hroom hv hi
  generalize hnl : l.length = n at *
  have HNL := Aside0.mk hnl
  clear hnl
  have h8' : IntKind.i64.wrap ((i : Int) + 1) = (i : Int) + 1 := by rw [i64_w]; exact h8
  go_enter Try.func45, Try.ntmps45
  go_wp2_with (simp only [hov])
  go_region_law (refine step_copy_run4 (P := Try.prog) rfl (.tmp 73) (.tmp 76) 22 22 rfl (.slice (some ⟨g, (i + 1) * 7, none⟩) (n - i) (cap - (i + 1))) (.slice (some ⟨g, i * 7, none⟩) (n + 1 - i) (cap - i)) (by simp [Act.eval, Act.put]) (by simp [Act.eval, Act.put]) (HCP1.out 3 (cap - (i + 1)) (cap - i)) ?_)
  generalize (w.drew.setCells g ((i + 1) * 7) (rflat (l.drop i))) = W1 at *
  have hcp2 := HCP2.out W1 HW1.out HVW.out
  have HW2 := Aside0.mk (setCells_laid (rcells r) (i * 7) HW1.out)
  have HB2 := Aside0.mk (below_cells HCUR.out.1 (rcells r) (i * 7) HB1.out)
  generalize (W1.setCells g (i * 7) (rcells r)) = W2 at *
  go_wp2_with fail
  go_ret
  have hcur := HCUR.out
  have hlen := HNL.out
  have hi := HI.out
  have hll : (l.take i ++ r :: l.drop i).length = n + 1 := by simp; omega
  refine ⟨_, rfl, ?_, HB2.out⟩
  rw [← hll]
  refine own_of hcur.1 HW2.out (by rw [laidAt_size, laidAt_size]; exact hcur.2.2.1) (by rw [hll]; omega) hcur.2.2.2.2 (ins_cells (by omega) ?_ ?_ ?_)
  · intro k u hu
    have hk := (List.getElem?_eq_some_iff.1 hu).1
    rw [rflat_len, List.length_take] at hk
    rw [laidAt_other _ _ _ _ (.inl (by omega)), laidAt_other _ _ _ _ (.inl (by omega))]
    apply HCS.out
    have e : rflat l = rflat (l.take i) ++ rflat (l.drop i) := by rw [← rflat_append, List.take_append_drop]
    rw [e, List.getElem?_append_left (by rw [rflat_len, List.length_take]; omega)]
    exact hu
  · intro k u hu
    exact laidAt_at _ _ _ _ _ (by rw [laidAt_size]; have : (rcells r).length = 7 := rfl; omega) hu
  · intro k u hu
    have hr : (rcells r).length = 7 := rfl
    rw [laidAt_other _ _ _ _ (.inr (by omega))]
    exact laidAt_at _ _ _ _ _ (by rw [rflat_len, List.length_drop]; omega) hu
end Go.Proofs.Ytckjhdlpbfcaiaa.H
/-! ### Eda5 -/
namespace Go.Proofs.Ytckjhdlpbfcaiaa.H
open Go.RowKit Go.Proofs.Ytckjhdlpbfcaiaa.P Go.Proofs.YtckjhdlpbfcaiaaW.PrintWords Go.Proofs.YtckjhdlpbfcaiaaW.PrintLast Go.Proofs.YtckjhdlpbfcaiaaW.PrintMore
set_option linter.unusedVariables false
set_option linter.unusedSimpArgs false
set_option maxRecDepth 100000
set_option maxHeartbeats 4000000 in
theorem ins_end (B n cv vb : Nat) (Av : Option Addr) (l : List Rul) (r : Rul) (w : World) (hnl : l.length = n) (hown : OwnR B (.slice Av n cv) l w) (hv : w.heap[vb]? = some (.cells (rcells r).toArray 35 (0, 0))) (hlen : n ≤ 1000) (hBw : B ≤ w.heap.size) (hcv : n ≤ cv) :
    Calls Try.prog 45 #[.slice Av n cv, .int .i64 (n : Nat), .slice (some ⟨vb, 0, none⟩) 1 1] w fun e w' => ∃ v, e = .returned v ∧ OwnR B v (l ++ [r]) w' ∧ Below B w w' := by
  obtain ⟨i0, hi0, hz0, hz1, hz2⟩ := info_parts info35
  have HOW := Aside0.mk (show w.ownsRow B 35 7 (.slice Av n cv) n (rflat l) from by rw [← hnl] at hown ⊢; exact hown)
  have HV := Aside0.mk hv
  have HL := Aside0.mk hnl
  have h1 : (0 : Int) ≤ (n : Int) := by omega
  have h2 : (n : Int) ≤ (cv : Int) := by omega
  have HLEN := Aside0.mk hlen
  clear hown hv hnl hlen
  go_enter Try.func45, Try.ntmps45
  go_wp2_with (first | (at_builtin; refine wpList_append_own _ rfl (.tmp 23) (.tmp 24) 22 rfl B 35 i0 (.agg #[(.int .i64 0), (.int .i64 0), (.int .i64 0), (.int .i64 0), (.int .u32 0), (.int .u32 0), (.int .i64 0)]) 7 48 Try.underlying22 hi0 hz0 hz1 hz2 rfl (by decide) (.slice Av n cv) n (rflat l) rfl HOW.out ⟨vb, 0, none⟩ 1 1 (rcells r) rfl rfl (fun j u hj => by rw [Addr.add_lit, blk_cell HV.out, Nat.zero_add, List.getElem?_toArray]; exact hj) (rcells_one r) (by have := HLEN.out; unfold maxLen; omega) (by have := HLEN.out; omega) hBw ?_; intro v2 w2 ho3 hg3 _))
  all_goals
    have hB2 := (Below.refl B w).grown hg3 hBw (fun q hq => (HOW.out.lt q hq).1)
    clear hg3
    go_wp2_with fail
    go_ret
    refine ⟨_, rfl, ?_, hB2⟩
    unfold OwnR
    rw [rflat_append, List.length_append, HL.out]
    exact ho3
end Go.Proofs.Ytckjhdlpbfcaiaa.H
