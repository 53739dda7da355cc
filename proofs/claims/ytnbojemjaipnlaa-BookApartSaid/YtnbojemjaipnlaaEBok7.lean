/- Bok7. -/
import Derived.Test.YtnbojemjaipnlaaEBok6
import Derived.Deep.AppendSrc
import Derived.Deep.RegionLaw
import Derived.Test.YtnbojemjaipnlaaEReg
namespace Go.Proofs.Ytnbojemjaipnlaa.H
open Go.RowKit Go.Proofs.Ytnbojemjaipnlaa.P Go.Proofs.YtnbojemjaipnlaaW.PrintWords Go.Proofs.YtnbojemjaipnlaaW.PrintLast Go.Proofs.YtnbojemjaipnlaaW.PrintMore
set_option linter.unusedVariables false
set_option linter.unusedSimpArgs false
set_option maxRecDepth 20000
theorem step_append_run7 {P : Program} {ops : Array Oper} {o : Oper} {a : Act} {w : World} {K : Act → World → Prop} {Q : Exit → Act → World → Prop} {E : Prop}
    (hg : o.guard = none) (d x : Operand) (dT sT : TypeId) (hop : o.op = Op.call { callee := Callee.builtin Builtin.append, args := #[d, x], argTypes := #[dT, sT] })
    (v u : Value) (hd : a.eval d = v) (hx : a.eval x = u) {v' : Value} {w' : World} (hr : (Builtin.append_ #[dT, sT] o.type #[v, u]).run P w = .ok v' w') (hK : K (a.put o.dst v') w') :
    if Region.wanted o (yielded ops a.tmps) = true then Oper.wp P o a w K Q else E := by
  have hw : Region.wanted o (yielded ops a.tmps) = true := by simp [Region.wanted, hg]
  rw [if_pos hw]
  unfold Oper.wp
  simp [execOp, hop, resolve, invoke, builtin, hd, hx, hr, Result.andThen]
  exact hK
theorem noint_cells {w : World} {k : Nat} {cs : Array Value} {t : TypeId} (h : w.heap[k]? = some (.cells cs t (0, 0))) (hc : ∀ q i, (Value.int q i) ∉ cs.toList) : NoInt w k := by
  intro a q x e hx
  unfold World.cell? at hx
  rw [e, h] at hx
  simp at hx
  obtain ⟨_, h2⟩ := hx
  rw [← Array.getElem?_toList] at h2
  exact hc q x (List.mem_of_getElem? h2)
theorem append_edits (A : Option Addr) (l : List Edi) (x : Edi) (vb : Nat) (V : World) (hr : Kd.C k37 V A l.length l) (hv : V.heap[vb]? = some (.cells (ecells x).toArray 37 (0, 0))) (hl : l.length ≤ 1000) :
    ∃ G V2, (∀ ty, (Builtin.append_ #[44, 44] ty #[.slice A l.length l.length, .slice (some ⟨vb, 0, none⟩) 1 1]).run Try.prog V = .ok (.slice (some ⟨V.heap.size, 0, none⟩) (l.length + 1) G) V2) ∧ Below V.heap.size V V2 ∧ l.length + 1 ≤ G ∧ Kd.C k37 V2 (some ⟨V.heap.size, 0, none⟩) (l ++ [x]).length (l ++ [x]) := by
  obtain ⟨i0, hi0, hz0, hzs, hzb⟩ := info_parts infoE
  have hold : (Builtin.firstCells i0.size l.length (.slice A l.length l.length)).run Try.prog V.drew = .ok (eflat l).toArray V.drew := by
    rw [hzs]
    cases A with
    | none =>
      have hl0 : l = [] := by
        rcases Nat.eq_zero_or_pos l.length with h | h
        · exact List.eq_nil_of_length_eq_zero h
        · obtain ⟨ad, e, _⟩ := hr.2.2 h
          cases e
      subst hl0
      exact run_firstCells_none V.drew 8 0 0 0
    | some ad => exact run_firstCells_some V.drew 8 l.length ad l.length l.length (eflat l) (eflat_len l) (reads_edits hr ad rfl)
  have hsrc : Src Try.prog i0.size 44 (.slice (some ⟨vb, 0, none⟩) 1 1) 1 (ecells x) V := by
    rw [hzs]
    exact Src.ofSlice V Try.underlying44 ⟨vb, 0, none⟩ 1 1 (ecells x) rfl (fun j u hj => by rw [Addr.add_lit, blk_cell hv, Nat.zero_add, List.getElem?_toArray]; exact hj) (ecells_one x)
  have hrun := fun ty => run_append_grow_src V 44 44 ty 37 i0 _ Try.underlying44 hi0 hz0 A l.length l.length (eflat l) hold _ 1 (ecells x) hsrc (by omega) (by omega) (by rw [hzb]; exact growslice_fits (by omega) (by omega))
  refine ⟨_, _, hrun, (below_drew (Below.refl _ V)).alloc (Nat.le_refl _) _, grownCap_ge V _ _ _, ?_⟩
  have hlen : (l ++ [x]).length = l.length + 1 := by simp
  refine ⟨rfl, by omega, fun _ => ⟨_, rfl, fun j p hj => ⟨ecells p, rfl, k37_mk _ _, fun i u hu => ?_⟩⟩⟩
  have hb := blk_new V.drew (.cells ((eflat l ++ ecells x).toArray ++ Builtin.zeroCells (Value.agg #[(.int .i64 0), (.int .i64 0), (.int .i64 0), (.int .i64 0), (.int .i64 0), (.int .u32 0), (.int .u32 0), (.int .i64 0)]).cells (grownCap V (l.length + 1) l.length 37 - (l.length + 1))) 37)
  rw [add_plain]
  have hb' : ((V.drew).alloc (.cells ((eflat l ++ ecells x).toArray ++ Builtin.zeroCells (Value.agg #[(.int .i64 0), (.int .i64 0), (.int .i64 0), (.int .i64 0), (.int .i64 0), (.int .u32 0), (.int .u32 0), (.int .i64 0)]).cells (grownCap V (l.length + 1) l.length 37 - (l.length + 1))) 37)).heap[V.heap.size]? = _ := hb
  rw [blk_cell hb']
  have e : eflat (l ++ [x]) = eflat l ++ ecells x := by unfold eflat; simp
  have h8 := eflat_at (l ++ [x]) j p hj i u hu
  rw [e] at h8
  have hk := (List.getElem?_eq_some_iff.1 h8).1
  rw [Array.getElem?_append_left (by rw [List.size_toArray]; exact hk), List.getElem?_toArray]
  exact h8
def stageM (M : List (Int × Ses)) (n : Int) (x : Edi) : List (Int × Ses) × Int := match lookM M n with | none => (M, 181) | some s => if 10 ≤ s.2.length then (M, 182) else (putM M n (s.1, s.2 ++ [x]), 0)
def encEd (r : Edi) : Value := .agg #[.int .i64 r.f0, .int .i64 r.f1.f0, .int .i64 r.f1.f1, .int .i64 r.f1.f2, .int .i64 r.f1.f3, .int .u32 r.f1.f4.f0, .int .u32 r.f1.f4.f1, .int .i64 r.f1.f5]
def blkE (r : Edi) : Obj := .cells #[.int .i64 r.f0, .int .i64 r.f1.f0, .int .i64 r.f1.f1, .int .i64 r.f1.f2, .int .i64 r.f1.f3, .int .u32 r.f1.f4.f0, .int .u32 r.f1.f4.f1, .int .i64 r.f1.f5] 37 (0, 0)
theorem edit_cells {w : World} {b : Nat} {r : Edi} (h : w.heap[b]? = some (blkE r)) : w.cell? ⟨b, 0, none⟩ = some (.int .i64 r.f0) ∧ w.cell? ⟨b, 1, none⟩ = some (.int .i64 r.f1.f0) ∧ w.cell? ⟨b, 2, none⟩ = some (.int .i64 r.f1.f1) ∧ w.cell? ⟨b, 3, none⟩ = some (.int .i64 r.f1.f2) ∧ w.cell? ⟨b, 4, none⟩ = some (.int .i64 r.f1.f3) ∧ w.cell? ⟨b, 5, none⟩ = some (.int .u32 r.f1.f4.f0) ∧ w.cell? ⟨b, 6, none⟩ = some (.int .u32 r.f1.f4.f1) ∧ w.cell? ⟨b, 7, none⟩ = some (.int .i64 r.f1.f5) :=
  ⟨blk_cell h 0, blk_cell h 1, blk_cell h 2, blk_cell h 3, blk_cell h 4, blk_cell h 5, blk_cell h 6, blk_cell h 7⟩
set_option maxHeartbeats 4000000 in
theorem stage_ok (hb g : Nat) (M : List (Int × Ses)) (n : Int) (x : Edi) (s : Ses) (w : World) (h : BookAt w hb g M) (hn : i64 n) (hm : M.length ≤ 1000) (hl : lookM M n = some s) (h10 : s.2.length < 10) :
    Calls Try.prog 21 #[.pointer (some ⟨hb, 0, none⟩), .int .i64 n, encEd x] w (Does w hb g (putM M n (s.1, s.2 ++ [x])) (.int .i64 0)) := by
  have HB0 := Aside0.mk ((Below.refl w.heap.size w).alloc (Nat.le_refl _) (.cells #[.int .i64 x.f0, .int .i64 x.f1.f0, .int .i64 x.f1.f1, .int .i64 x.f1.f2, .int .i64 x.f1.f3, .int .u32 x.f1.f4.f0, .int .u32 x.f1.f4.f1, .int .i64 x.f1.f5] 37))
  have HX := Aside0.mk (show (w.alloc (.cells #[.int .i64 x.f0, .int .i64 x.f1.f0, .int .i64 x.f1.f1, .int .i64 x.f1.f2, .int .i64 x.f1.f3, .int .u32 x.f1.f4.f0, .int .u32 x.f1.f4.f1, .int .i64 x.f1.f5] 37)).heap[w.heap.size]? = some (blkE x) from blk_new w _)
  have HF := Aside0.mk (find_any hb g M n _ (h.below HB0.out) hn)
  rw [hl, show errF (some s) = 0 from rfl] at HF
  have H := Aside0.mk h
  have HN := Aside0.mk hn
  have HM := Aside0.mk hm
  have H10 := Aside0.mk h10
  have hu := Try.underlying66
  have hu2 := Try.underlying64
  have hu3 := Try.underlying37
  have hq : ¬ ((10 : Int) ≤ (s.2.length : Int)) := by omega
  unfold encEd
  clear h hn hm hl h10
  go_enter Try.func21, Try.ntmps21
  go_wp2_with fail
  refine HF.out.mono ?_
  rintro e w2 ⟨v, rfl, hf, hb2⟩
  obtain ⟨A, c, rfl, hc, hr⟩ := hf.some_
  have HB2 := Aside0.mk (HB0.out.trans (hb2.mono HB0.out.size))
  have HX2 := Aside0.mk (blk_below HX.out hb2)
  have HC := Aside0.mk hc
  have HR := Aside0.mk hr
  clear hf hb2 hc hr HF
  go_wp2_with fail
  have HB3 := Aside0.mk (HB2.out.alloc HB2.out.size (.cells #[.string s.1, .slice A s.2.length c] 66))
  have HW := Aside0.mk ((Below.refl w2.heap.size w2).alloc (Nat.le_refl _) (.cells #[.string s.1, .slice A s.2.length c] 66))
  have HY := Aside0.mk (blk_new w2 (.cells #[.string s.1, .slice A s.2.length c] 66))
  generalize (w2.alloc (.cells #[.string s.1, .slice A s.2.length c] 66)) = W at *
  have HX3 := Aside0.mk (blk_below HX2.out HW.out)
  have HR3 := Aside0.mk (Kd.C_below HR.out HW.out)
  have hcl := fun w => clip_any A c s.2.length w HC.out (by have := H10.out; omega)
  obtain ⟨x0, x1, x2, x3, x4, x5, x6, x7⟩ := edit_cells HX3.out
  have y0 := blk_cell HY.out 0
  have y1 : W.cell? ⟨w2.heap.size, 1, none⟩ = some (.slice A s.2.length c) := blk_cell HY.out 1
  have z1 := blk_frozen HY.out 1
  have z0 := blk_frozen HY.out 0
  have HW0 := Aside0.mk (Below.refl W.heap.size W)
  have HV1 := Aside0.mk ((below_drew HW0.out).alloc (Nat.le_refl _) (.cells #[.int .i64 x.f0, .int .i64 x.f1.f0, .int .i64 x.f1.f1, .int .i64 x.f1.f2, .int .i64 x.f1.f3, .int .u32 x.f1.f4.f0, .int .u32 x.f1.f4.f1, .int .i64 x.f1.f5] 37))
  have HNW := Aside0.mk (blk_new W.drew (.cells #[.int .i64 x.f0, .int .i64 x.f1.f0, .int .i64 x.f1.f1, .int .i64 x.f1.f2, .int .i64 x.f1.f3, .int .u32 x.f1.f4.f0, .int .u32 x.f1.f4.f1, .int .i64 x.f1.f5] 37))
  obtain ⟨G, V2, hap, hv2, hG, hC2⟩ := append_edits A s.2 x W.heap.size _ (Kd.C_below HR3.out HV1.out) HNW.out (by have := H10.out; omega)
  have HAP := Aside0.mk hap
  have HV2 := Aside0.mk (HV1.out.trans (hv2.mono HV1.out.size))
  have HY2 := Aside0.mk (blk_below HY.out HV2.out)
  have v1 : V2.cell? ⟨w2.heap.size, 1, none⟩ = some (.slice A s.2.length c) := blk_cell HY2.out 1
  have vz1 := blk_frozen HY2.out 1
  have hsz2 : (W.drew.alloc (.cells #[.int .i64 x.f0, .int .i64 x.f1.f0, .int .i64 x.f1.f1, .int .i64 x.f1.f2, .int .i64 x.f1.f3, .int .u32 x.f1.f4.f0, .int .u32 x.f1.f4.f1, .int .i64 x.f1.f5] 37)).heap.size = W.heap.size + 1 := by simp
  rw [hsz2] at hC2
  have hlw : w.heap.size ≤ w2.heap.size := HB2.out.size
  have hbv : Below w.heap.size w V2 := HB3.out.trans (HV2.out.mono HB3.out.size)
  have hb9 : Below w.heap.size w (V2.setCell ⟨w2.heap.size, 1, none⟩ (.slice (some ⟨W.heap.size + 1, 0, none⟩) (s.2.length + 1) G)) := hbv.setCell (p := ⟨w2.heap.size, 1, none⟩) hlw _
  have hy3 := blk_set HY2.out 1 (.slice (some ⟨W.heap.size + 1, 0, none⟩) (s.2.length + 1) G)
  have hno : NoInt V2 w2.heap.size := noint_cells HY2.out (fun q i hi => by simp at hi)
  have hno3 := noint_cells hy3 (fun q i hi => by simp at hi)
  have hses : SesAt (V2.setCell ⟨w2.heap.size, 1, none⟩ (.slice (some ⟨W.heap.size + 1, 0, none⟩) (s.2.length + 1) G)).drew (.agg #[.string s.1, .slice (some ⟨W.heap.size + 1, 0, none⟩) (s.2.length + 1) G]) (s.1, s.2 ++ [x]) := ⟨_, G, by simp, by simp; omega, C_but (S := (· = w2.heap.size)) (C_but (S := (· = w2.heap.size)) hC2 (ButS.set _ rfl) (fun k hk => by rw [hk]; exact hno)) (ButS.of (below_drew (Below.refl _ _))) (fun k hk => by rw [hk]; exact hno3)⟩
  have h9 := H.out.below (below_drew hb9)
  obtain ⟨w9, hst, hbk, hbut⟩ := h9.store HN.out HM.out hses
  have k9 : w9.cell? ⟨hb, 0, none⟩ = some (.map (some g)) ∧ w9.cell? ⟨w2.heap.size, 0, none⟩ = some (.string s.1) ∧ w9.cell? ⟨w2.heap.size, 1, none⟩ = some (.slice (some ⟨W.heap.size + 1, 0, none⟩) (s.2.length + 1) G) := by
    have hgt := H.out.gt.1
    have e := (hbut.block w2.heap.size (by have := (Array.getElem?_eq_some_iff.1 hy3).1; exact this) (by omega)).trans hy3
    exact ⟨hbk.cell, blk_cell e 0, blk_cell e 1⟩
  have k8 : (V2.setCell ⟨w2.heap.size, 1, none⟩ (.slice (some ⟨W.heap.size + 1, 0, none⟩) (s.2.length + 1) G)).cell? ⟨hb, 0, none⟩ = some (.map (some g)) ∧ (V2.setCell ⟨w2.heap.size, 1, none⟩ (.slice (some ⟨W.heap.size + 1, 0, none⟩) (s.2.length + 1) G)).cell? ⟨w2.heap.size, 0, none⟩ = some (.string s.1) ∧ (V2.setCell ⟨w2.heap.size, 1, none⟩ (.slice (some ⟨W.heap.size + 1, 0, none⟩) (s.2.length + 1) G)).cell? ⟨w2.heap.size, 1, none⟩ = some (.slice (some ⟨W.heap.size + 1, 0, none⟩) (s.2.length + 1) G) := ⟨(H.out.below hb9).cell, blk_cell hy3 0, blk_cell hy3 1⟩
  have HST := Aside0.mk hst
  have HK9 := Aside0.mk k9
  have HK8 := Aside0.mk k8
  have HFIN := Aside0.mk hbk
  have HFU := Aside0.mk ((ButS.of (below_drew hb9)).trans hbut)
  clear hsz2 hbv hb9 hy3 hno hno3 hses h9 hst hbk hbut k9 k8 hlw
  have HC2 := Aside0.mk hC2
  have HG := Aside0.mk hG
  have hz1 : W.heap.size ≠ w2.heap.size := World.new_ne W ⟨w2.heap.size, 1, none⟩ y1
  have hz2 : W.heap.size ≠ w.heap.size := World.new_ne W ⟨w.heap.size, 0, none⟩ x0
  have hz4 := hz1.symm
  have hz5 := hz2.symm
  have u1 : (W.alloc (.cells #[.int .i64 x.f0, .int .i64 x.f1.f0, .int .i64 x.f1.f1, .int .i64 x.f1.f2, .int .i64 x.f1.f3, .int .u32 x.f1.f4.f0, .int .u32 x.f1.f4.f1, .int .i64 x.f1.f5] 37)).cell? ⟨w2.heap.size, 1, none⟩ = some (.slice A s.2.length c) := blk_cell (blk_below HY.out (HW0.out.alloc (Nat.le_refl _) (.cells #[.int .i64 x.f0, .int .i64 x.f1.f0, .int .i64 x.f1.f1, .int .i64 x.f1.f2, .int .i64 x.f1.f3, .int .u32 x.f1.f4.f0, .int .u32 x.f1.f4.f1, .int .i64 x.f1.f5] 37))) 1
  have u2 : (W.alloc (.cells #[.int .i64 x.f0, .int .i64 x.f1.f0, .int .i64 x.f1.f1, .int .i64 x.f1.f2, .int .i64 x.f1.f3, .int .u32 x.f1.f4.f0, .int .u32 x.f1.f4.f1, .int .i64 x.f1.f5] 37)).drew.cell? ⟨w2.heap.size, 1, none⟩ = some (.slice A s.2.length c) := u1
  clear hap hv2 hC2 hG
  refine wp_region_held_drew (S := fun _ => True) (by kernel_rfl) ?hS0 (fun hHeld => ?_)
  case hS0 => trivial
  refine held_take 0 (some 24) (v := ?v0) rfl rfl (by kernel_rfl) (by kernel_rfl) (by kernel_rfl) (fun _ _ _ h => h) (by rfl) ?y0 (by assumption) ?_
  case y0 => ((intro w hSw); (try dsimp only at hSw); go_simp <;> (with_reducible rfl))
  try simp only [Act.put, List.setIfInBounds_toArray, List.set_cons_zero, List.set_cons_succ]
  refine wpAnyH_ready (rs := [1, 3]) (by kernel_rfl) (by simp) ?_
  refine AllReadyH.cons rfl (fun K hK => ?_) (AllReadyH.cons rfl (fun K hK => ?_) AllReadyH.nil)
  · go_simp
    refine hK.out _ _ ?hSw1_2 (fun hHeld => ?_)
    case hSw1_2 => trivial
    clear hK K
    try simp only [Act.put, List.setIfInBounds_toArray, List.set_cons_zero, List.set_cons_succ]
    refine wpAnyH_ready (rs := [2, 3]) (by kernel_rfl) (by simp) ?_
    refine AllReadyH.cons rfl (fun K hK => ?_) (AllReadyH.cons rfl (fun K hK => ?_) AllReadyH.nil)
    · go_simp
      ((with_reducible refine (hcl _).mono ?_); rintro e w5 ⟨rfl, rfl⟩)
      refine hK.out _ _ ?hSw2_3 (fun hHeld => ?_)
      case hSw2_3 => trivial
      clear hK K
      try simp only [Act.put, List.setIfInBounds_toArray, List.set_cons_zero, List.set_cons_succ]
      refine wpAnyH_ready (rs := [3]) (by kernel_rfl) (by simp) ?_
      refine AllReadyH.cons rfl (fun K hK => ?_) AllReadyH.nil
      go_simp
      refine hK.out _ _ ?hSw2_4 (fun hHeld => ?_)
      case hSw2_4 => trivial
      clear hK K
      try simp only [Act.put, List.setIfInBounds_toArray, List.set_cons_zero, List.set_cons_succ]
      refine wpAnyH_ready (rs := [4]) (by kernel_rfl) (by simp) ?_
      refine AllReadyH.cons rfl (fun K hK => ?_) AllReadyH.nil
      go_simp
      refine hK.out _ _ ?hSw2_5 (fun hHeld => ?_)
      case hSw2_5 => trivial
      clear hK K
      try simp only [Act.put, List.setIfInBounds_toArray, List.set_cons_zero, List.set_cons_succ]
      refine wpAnyH_ready (rs := [5]) (by kernel_rfl) (by simp) ?_
      refine AllReadyH.cons rfl (fun K hK => ?_) AllReadyH.nil
      refine step_append_run7 rfl (.tmp 26) (.tmp 28) 44 44 rfl (.slice A s.2.length s.2.length) (.slice (some ⟨W.heap.size, 0, none⟩) 1 1) (by simp [Act.eval, Act.put]) (by simp [Act.eval, Act.put]) (HAP.out _) ?_
      refine hK.out _ _ ?hSw2_6 (fun hHeld => ?_)
      case hSw2_6 => trivial
      clear hK K
      try simp only [Act.put, List.setIfInBounds_toArray, List.set_cons_zero, List.set_cons_succ]
      refine held_take 6 (some 30) (v := ?vw2_6) rfl rfl (by kernel_rfl) (by kernel_rfl) (by kernel_rfl) (fun _ _ _ h => h) (by rfl) ?yw2_6 (by assumption) ?_
      case yw2_6 => ((intro w hSw); (try dsimp only at hSw); go_simp <;> (with_reducible rfl))
      try simp only [Act.put, List.setIfInBounds_toArray, List.set_cons_zero, List.set_cons_succ]
      refine wpAnyH_ready (rs := [7]) (by kernel_rfl) (by simp) ?_
      refine AllReadyH.cons rfl (fun K hK => ?_) AllReadyH.nil
      go_simp
      refine hK.out _ _ ?hSw2_8 (fun hHeld => ?_)
      case hSw2_8 => trivial
      clear hK K
      try simp only [Act.put, List.setIfInBounds_toArray, List.set_cons_zero, List.set_cons_succ]
      refine wpAnyH_done (by kernel_rfl) ?_ _
      go_wp2_with fail
      have k9 := HK9.out
      have k8 := HK8.out
      have hst := HST.out
      generalize (V2.setCell ⟨w2.heap.size, 1, none⟩ (.slice (some ⟨W.heap.size + 1, 0, none⟩) (s.2.length + 1) G)) = W3 at *
      obtain ⟨q0, q1, q2⟩ := k8
      have k8 := And.intro q0 (And.intro q1 q2)
      go_region_held3 (fun w' => w'.cell? ⟨hb, 0, none⟩ = some (.map (some g)) ∧ w'.cell? ⟨w2.heap.size, 0, none⟩ = some (.string s.1) ∧ w'.cell? ⟨w2.heap.size, 1, none⟩ = some (.slice (some ⟨W.heap.size + 1, 0, none⟩) (s.2.length + 1) G)) (first | assumption | go_keep) (fail)
      go_wp2_with fail
      go_ret
      exact ⟨rfl, HFIN.out, HFU.out⟩
    · go_simp
      refine hK.out _ _ ?hSw3_4 (fun hHeld => ?_)
      case hSw3_4 => trivial
      clear hK K
      try simp only [Act.put, List.setIfInBounds_toArray, List.set_cons_zero, List.set_cons_succ]
      refine wpAnyH_ready (rs := [2, 4]) (by kernel_rfl) (by simp) ?_
      refine AllReadyH.cons rfl (fun K hK => ?_) (AllReadyH.cons rfl (fun K hK => ?_) AllReadyH.nil)
      · go_simp
        ((with_reducible refine (hcl _).mono ?_); rintro e w5 ⟨rfl, rfl⟩)
        refine hK.out _ _ ?hSw4_3 (fun hHeld => ?_)
        case hSw4_3 => trivial
        clear hK K
        try simp only [Act.put, List.setIfInBounds_toArray, List.set_cons_zero, List.set_cons_succ]
        refine wpAnyH_ready (rs := [4]) (by kernel_rfl) (by simp) ?_
        refine AllReadyH.cons rfl (fun K hK => ?_) AllReadyH.nil
        go_simp
        refine hK.out _ _ ?hSw4_5 (fun hHeld => ?_)
        case hSw4_5 => trivial
        clear hK K
        try simp only [Act.put, List.setIfInBounds_toArray, List.set_cons_zero, List.set_cons_succ]
        refine wpAnyH_ready (rs := [5]) (by kernel_rfl) (by simp) ?_
        refine AllReadyH.cons rfl (fun K hK => ?_) AllReadyH.nil
        refine step_append_run7 rfl (.tmp 26) (.tmp 28) 44 44 rfl (.slice A s.2.length s.2.length) (.slice (some ⟨W.heap.size, 0, none⟩) 1 1) (by simp [Act.eval, Act.put]) (by simp [Act.eval, Act.put]) (HAP.out _) ?_
        refine hK.out _ _ ?hSw4_6 (fun hHeld => ?_)
        case hSw4_6 => trivial
        clear hK K
        try simp only [Act.put, List.setIfInBounds_toArray, List.set_cons_zero, List.set_cons_succ]
        refine held_take 6 (some 30) (v := ?vw4_6) rfl rfl (by kernel_rfl) (by kernel_rfl) (by kernel_rfl) (fun _ _ _ h => h) (by rfl) ?yw4_6 (by assumption) ?_
        case yw4_6 => ((intro w hSw); (try dsimp only at hSw); go_simp <;> (with_reducible rfl))
        try simp only [Act.put, List.setIfInBounds_toArray, List.set_cons_zero, List.set_cons_succ]
        refine wpAnyH_ready (rs := [7]) (by kernel_rfl) (by simp) ?_
        refine AllReadyH.cons rfl (fun K hK => ?_) AllReadyH.nil
        go_simp
        refine hK.out _ _ ?hSw4_8 (fun hHeld => ?_)
        case hSw4_8 => trivial
        clear hK K
        try simp only [Act.put, List.setIfInBounds_toArray, List.set_cons_zero, List.set_cons_succ]
        refine wpAnyH_done (by kernel_rfl) ?_ _
        go_wp2_with fail
        have k9 := HK9.out
        have k8 := HK8.out
        have hst := HST.out
        generalize (V2.setCell ⟨w2.heap.size, 1, none⟩ (.slice (some ⟨W.heap.size + 1, 0, none⟩) (s.2.length + 1) G)) = W3 at *
        obtain ⟨q0, q1, q2⟩ := k8
        have k8 := And.intro q0 (And.intro q1 q2)
        go_region_held3 (fun w' => w'.cell? ⟨hb, 0, none⟩ = some (.map (some g)) ∧ w'.cell? ⟨w2.heap.size, 0, none⟩ = some (.string s.1) ∧ w'.cell? ⟨w2.heap.size, 1, none⟩ = some (.slice (some ⟨W.heap.size + 1, 0, none⟩) (s.2.length + 1) G)) (first | assumption | go_keep) (fail)
        go_wp2_with fail
        go_ret
        exact ⟨rfl, HFIN.out, HFU.out⟩
      · go_simp
        refine hK.out _ _ ?hSw5_5 (fun hHeld => ?_)
        case hSw5_5 => trivial
        clear hK K
        try simp only [Act.put, List.setIfInBounds_toArray, List.set_cons_zero, List.set_cons_succ]
        refine wpAnyH_ready (rs := [2]) (by kernel_rfl) (by simp) ?_
        refine AllReadyH.cons rfl (fun K hK => ?_) AllReadyH.nil
        go_simp
        ((with_reducible refine (hcl _).mono ?_); rintro e w5 ⟨rfl, rfl⟩)
        refine hK.out _ _ ?hSw5_3 (fun hHeld => ?_)
        case hSw5_3 => trivial
        clear hK K
        try simp only [Act.put, List.setIfInBounds_toArray, List.set_cons_zero, List.set_cons_succ]
        refine wpAnyH_ready (rs := [5]) (by kernel_rfl) (by simp) ?_
        refine AllReadyH.cons rfl (fun K hK => ?_) AllReadyH.nil
        refine step_append_run7 rfl (.tmp 26) (.tmp 28) 44 44 rfl (.slice A s.2.length s.2.length) (.slice (some ⟨W.heap.size, 0, none⟩) 1 1) (by simp [Act.eval, Act.put]) (by simp [Act.eval, Act.put]) (HAP.out _) ?_
        refine hK.out _ _ ?hSw5_6 (fun hHeld => ?_)
        case hSw5_6 => trivial
        clear hK K
        try simp only [Act.put, List.setIfInBounds_toArray, List.set_cons_zero, List.set_cons_succ]
        refine held_take 6 (some 30) (v := ?vw5_6) rfl rfl (by kernel_rfl) (by kernel_rfl) (by kernel_rfl) (fun _ _ _ h => h) (by rfl) ?yw5_6 (by assumption) ?_
        case yw5_6 => ((intro w hSw); (try dsimp only at hSw); go_simp <;> (with_reducible rfl))
        try simp only [Act.put, List.setIfInBounds_toArray, List.set_cons_zero, List.set_cons_succ]
        refine wpAnyH_ready (rs := [7]) (by kernel_rfl) (by simp) ?_
        refine AllReadyH.cons rfl (fun K hK => ?_) AllReadyH.nil
        go_simp
        refine hK.out _ _ ?hSw5_8 (fun hHeld => ?_)
        case hSw5_8 => trivial
        clear hK K
        try simp only [Act.put, List.setIfInBounds_toArray, List.set_cons_zero, List.set_cons_succ]
        refine wpAnyH_done (by kernel_rfl) ?_ _
        go_wp2_with fail
        have k9 := HK9.out
        have k8 := HK8.out
        have hst := HST.out
        generalize (V2.setCell ⟨w2.heap.size, 1, none⟩ (.slice (some ⟨W.heap.size + 1, 0, none⟩) (s.2.length + 1) G)) = W3 at *
        obtain ⟨q0, q1, q2⟩ := k8
        have k8 := And.intro q0 (And.intro q1 q2)
        go_region_held3 (fun w' => w'.cell? ⟨hb, 0, none⟩ = some (.map (some g)) ∧ w'.cell? ⟨w2.heap.size, 0, none⟩ = some (.string s.1) ∧ w'.cell? ⟨w2.heap.size, 1, none⟩ = some (.slice (some ⟨W.heap.size + 1, 0, none⟩) (s.2.length + 1) G)) (first | assumption | go_keep) (fail)
        go_wp2_with fail
        go_ret
        exact ⟨rfl, HFIN.out, HFU.out⟩
  · go_simp
    refine hK.out _ _ ?hSw6_4 (fun hHeld => ?_)
    case hSw6_4 => trivial
    clear hK K
    try simp only [Act.put, List.setIfInBounds_toArray, List.set_cons_zero, List.set_cons_succ]
    refine wpAnyH_ready (rs := [1, 4]) (by kernel_rfl) (by simp) ?_
    refine AllReadyH.cons rfl (fun K hK => ?_) (AllReadyH.cons rfl (fun K hK => ?_) AllReadyH.nil)
    · go_simp
      refine hK.out _ _ ?hSw7_2 (fun hHeld => ?_)
      case hSw7_2 => trivial
      clear hK K
      try simp only [Act.put, List.setIfInBounds_toArray, List.set_cons_zero, List.set_cons_succ]
      refine wpAnyH_ready (rs := [2, 4]) (by kernel_rfl) (by simp) ?_
      refine AllReadyH.cons rfl (fun K hK => ?_) (AllReadyH.cons rfl (fun K hK => ?_) AllReadyH.nil)
      · go_simp
        ((with_reducible refine (hcl _).mono ?_); rintro e w5 ⟨rfl, rfl⟩)
        refine hK.out _ _ ?hSw8_3 (fun hHeld => ?_)
        case hSw8_3 => trivial
        clear hK K
        try simp only [Act.put, List.setIfInBounds_toArray, List.set_cons_zero, List.set_cons_succ]
        refine wpAnyH_ready (rs := [4]) (by kernel_rfl) (by simp) ?_
        refine AllReadyH.cons rfl (fun K hK => ?_) AllReadyH.nil
        go_simp
        refine hK.out _ _ ?hSw8_5 (fun hHeld => ?_)
        case hSw8_5 => trivial
        clear hK K
        try simp only [Act.put, List.setIfInBounds_toArray, List.set_cons_zero, List.set_cons_succ]
        refine wpAnyH_ready (rs := [5]) (by kernel_rfl) (by simp) ?_
        refine AllReadyH.cons rfl (fun K hK => ?_) AllReadyH.nil
        refine step_append_run7 rfl (.tmp 26) (.tmp 28) 44 44 rfl (.slice A s.2.length s.2.length) (.slice (some ⟨W.heap.size, 0, none⟩) 1 1) (by simp [Act.eval, Act.put]) (by simp [Act.eval, Act.put]) (HAP.out _) ?_
        refine hK.out _ _ ?hSw8_6 (fun hHeld => ?_)
        case hSw8_6 => trivial
        clear hK K
        try simp only [Act.put, List.setIfInBounds_toArray, List.set_cons_zero, List.set_cons_succ]
        refine held_take 6 (some 30) (v := ?vw8_6) rfl rfl (by kernel_rfl) (by kernel_rfl) (by kernel_rfl) (fun _ _ _ h => h) (by rfl) ?yw8_6 (by assumption) ?_
        case yw8_6 => ((intro w hSw); (try dsimp only at hSw); go_simp <;> (with_reducible rfl))
        try simp only [Act.put, List.setIfInBounds_toArray, List.set_cons_zero, List.set_cons_succ]
        refine wpAnyH_ready (rs := [7]) (by kernel_rfl) (by simp) ?_
        refine AllReadyH.cons rfl (fun K hK => ?_) AllReadyH.nil
        go_simp
        refine hK.out _ _ ?hSw8_8 (fun hHeld => ?_)
        case hSw8_8 => trivial
        clear hK K
        try simp only [Act.put, List.setIfInBounds_toArray, List.set_cons_zero, List.set_cons_succ]
        refine wpAnyH_done (by kernel_rfl) ?_ _
        go_wp2_with fail
        have k9 := HK9.out
        have k8 := HK8.out
        have hst := HST.out
        generalize (V2.setCell ⟨w2.heap.size, 1, none⟩ (.slice (some ⟨W.heap.size + 1, 0, none⟩) (s.2.length + 1) G)) = W3 at *
        obtain ⟨q0, q1, q2⟩ := k8
        have k8 := And.intro q0 (And.intro q1 q2)
        go_region_held3 (fun w' => w'.cell? ⟨hb, 0, none⟩ = some (.map (some g)) ∧ w'.cell? ⟨w2.heap.size, 0, none⟩ = some (.string s.1) ∧ w'.cell? ⟨w2.heap.size, 1, none⟩ = some (.slice (some ⟨W.heap.size + 1, 0, none⟩) (s.2.length + 1) G)) (first | assumption | go_keep) (fail)
        go_wp2_with fail
        go_ret
        exact ⟨rfl, HFIN.out, HFU.out⟩
      · go_simp
        refine hK.out _ _ ?hSw9_5 (fun hHeld => ?_)
        case hSw9_5 => trivial
        clear hK K
        try simp only [Act.put, List.setIfInBounds_toArray, List.set_cons_zero, List.set_cons_succ]
        refine wpAnyH_ready (rs := [2]) (by kernel_rfl) (by simp) ?_
        refine AllReadyH.cons rfl (fun K hK => ?_) AllReadyH.nil
        go_simp
        ((with_reducible refine (hcl _).mono ?_); rintro e w5 ⟨rfl, rfl⟩)
        refine hK.out _ _ ?hSw9_3 (fun hHeld => ?_)
        case hSw9_3 => trivial
        clear hK K
        try simp only [Act.put, List.setIfInBounds_toArray, List.set_cons_zero, List.set_cons_succ]
        refine wpAnyH_ready (rs := [5]) (by kernel_rfl) (by simp) ?_
        refine AllReadyH.cons rfl (fun K hK => ?_) AllReadyH.nil
        refine step_append_run7 rfl (.tmp 26) (.tmp 28) 44 44 rfl (.slice A s.2.length s.2.length) (.slice (some ⟨W.heap.size, 0, none⟩) 1 1) (by simp [Act.eval, Act.put]) (by simp [Act.eval, Act.put]) (HAP.out _) ?_
        refine hK.out _ _ ?hSw9_6 (fun hHeld => ?_)
        case hSw9_6 => trivial
        clear hK K
        try simp only [Act.put, List.setIfInBounds_toArray, List.set_cons_zero, List.set_cons_succ]
        refine held_take 6 (some 30) (v := ?vw9_6) rfl rfl (by kernel_rfl) (by kernel_rfl) (by kernel_rfl) (fun _ _ _ h => h) (by rfl) ?yw9_6 (by assumption) ?_
        case yw9_6 => ((intro w hSw); (try dsimp only at hSw); go_simp <;> (with_reducible rfl))
        try simp only [Act.put, List.setIfInBounds_toArray, List.set_cons_zero, List.set_cons_succ]
        refine wpAnyH_ready (rs := [7]) (by kernel_rfl) (by simp) ?_
        refine AllReadyH.cons rfl (fun K hK => ?_) AllReadyH.nil
        go_simp
        refine hK.out _ _ ?hSw9_8 (fun hHeld => ?_)
        case hSw9_8 => trivial
        clear hK K
        try simp only [Act.put, List.setIfInBounds_toArray, List.set_cons_zero, List.set_cons_succ]
        refine wpAnyH_done (by kernel_rfl) ?_ _
        go_wp2_with fail
        have k9 := HK9.out
        have k8 := HK8.out
        have hst := HST.out
        generalize (V2.setCell ⟨w2.heap.size, 1, none⟩ (.slice (some ⟨W.heap.size + 1, 0, none⟩) (s.2.length + 1) G)) = W3 at *
        obtain ⟨q0, q1, q2⟩ := k8
        have k8 := And.intro q0 (And.intro q1 q2)
        go_region_held3 (fun w' => w'.cell? ⟨hb, 0, none⟩ = some (.map (some g)) ∧ w'.cell? ⟨w2.heap.size, 0, none⟩ = some (.string s.1) ∧ w'.cell? ⟨w2.heap.size, 1, none⟩ = some (.slice (some ⟨W.heap.size + 1, 0, none⟩) (s.2.length + 1) G)) (first | assumption | go_keep) (fail)
        go_wp2_with fail
        go_ret
        exact ⟨rfl, HFIN.out, HFU.out⟩
    · go_simp
      refine hK.out _ _ ?hSw10_5 (fun hHeld => ?_)
      case hSw10_5 => trivial
      clear hK K
      try simp only [Act.put, List.setIfInBounds_toArray, List.set_cons_zero, List.set_cons_succ]
      refine wpAnyH_ready (rs := [1]) (by kernel_rfl) (by simp) ?_
      refine AllReadyH.cons rfl (fun K hK => ?_) AllReadyH.nil
      go_simp
      refine hK.out _ _ ?hSw10_2 (fun hHeld => ?_)
      case hSw10_2 => trivial
      clear hK K
      try simp only [Act.put, List.setIfInBounds_toArray, List.set_cons_zero, List.set_cons_succ]
      refine wpAnyH_ready (rs := [2]) (by kernel_rfl) (by simp) ?_
      refine AllReadyH.cons rfl (fun K hK => ?_) AllReadyH.nil
      go_simp
      ((with_reducible refine (hcl _).mono ?_); rintro e w5 ⟨rfl, rfl⟩)
      refine hK.out _ _ ?hSw10_3 (fun hHeld => ?_)
      case hSw10_3 => trivial
      clear hK K
      try simp only [Act.put, List.setIfInBounds_toArray, List.set_cons_zero, List.set_cons_succ]
      refine wpAnyH_ready (rs := [5]) (by kernel_rfl) (by simp) ?_
      refine AllReadyH.cons rfl (fun K hK => ?_) AllReadyH.nil
      refine step_append_run7 rfl (.tmp 26) (.tmp 28) 44 44 rfl (.slice A s.2.length s.2.length) (.slice (some ⟨W.heap.size, 0, none⟩) 1 1) (by simp [Act.eval, Act.put]) (by simp [Act.eval, Act.put]) (HAP.out _) ?_
      refine hK.out _ _ ?hSw10_6 (fun hHeld => ?_)
      case hSw10_6 => trivial
      clear hK K
      try simp only [Act.put, List.setIfInBounds_toArray, List.set_cons_zero, List.set_cons_succ]
      refine held_take 6 (some 30) (v := ?vw10_6) rfl rfl (by kernel_rfl) (by kernel_rfl) (by kernel_rfl) (fun _ _ _ h => h) (by rfl) ?yw10_6 (by assumption) ?_
      case yw10_6 => ((intro w hSw); (try dsimp only at hSw); go_simp <;> (with_reducible rfl))
      try simp only [Act.put, List.setIfInBounds_toArray, List.set_cons_zero, List.set_cons_succ]
      refine wpAnyH_ready (rs := [7]) (by kernel_rfl) (by simp) ?_
      refine AllReadyH.cons rfl (fun K hK => ?_) AllReadyH.nil
      go_simp
      refine hK.out _ _ ?hSw10_8 (fun hHeld => ?_)
      case hSw10_8 => trivial
      clear hK K
      try simp only [Act.put, List.setIfInBounds_toArray, List.set_cons_zero, List.set_cons_succ]
      refine wpAnyH_done (by kernel_rfl) ?_ _
      go_wp2_with fail
      have k9 := HK9.out
      have k8 := HK8.out
      have hst := HST.out
      generalize (V2.setCell ⟨w2.heap.size, 1, none⟩ (.slice (some ⟨W.heap.size + 1, 0, none⟩) (s.2.length + 1) G)) = W3 at *
      obtain ⟨q0, q1, q2⟩ := k8
      have k8 := And.intro q0 (And.intro q1 q2)
      go_region_held3 (fun w' => w'.cell? ⟨hb, 0, none⟩ = some (.map (some g)) ∧ w'.cell? ⟨w2.heap.size, 0, none⟩ = some (.string s.1) ∧ w'.cell? ⟨w2.heap.size, 1, none⟩ = some (.slice (some ⟨W.heap.size + 1, 0, none⟩) (s.2.length + 1) G)) (first | assumption | go_keep) (fail)
      go_wp2_with fail
      go_ret
      exact ⟨rfl, HFIN.out, HFU.out⟩
set_option maxHeartbeats 4000000 in
theorem stage_err (hb g : Nat) (M : List (Int × Ses)) (n : Int) (x : Edi) (w : World) (h : BookAt w hb g M) (hn : i64 n) (hq : ∀ s, lookM M n = some s → 10 ≤ s.2.length) :
    Calls Try.prog 21 #[.pointer (some ⟨hb, 0, none⟩), .int .i64 n, encEd x] w (Does w hb g M (.int .i64 (if (lookM M n).isSome = true then 182 else 181))) := by
  have HB0 := Aside0.mk ((Below.refl w.heap.size w).alloc (Nat.le_refl _) (.cells #[.int .i64 x.f0, .int .i64 x.f1.f0, .int .i64 x.f1.f1, .int .i64 x.f1.f2, .int .i64 x.f1.f3, .int .u32 x.f1.f4.f0, .int .u32 x.f1.f4.f1, .int .i64 x.f1.f5] 37))
  have HF := Aside0.mk (find_any hb g M n _ (h.below HB0.out) hn)
  have H := Aside0.mk h
  have hu := Try.underlying66
  unfold encEd
  clear h hn
  cases hl : lookM M n with
  | none =>
    rw [hl, show errF none = 181 from rfl] at HF
    rw [if_neg (by simp)]
    clear hl hq
    go_enter Try.func21, Try.ntmps21
    go_wp2_with fail
    refine HF.out.mono ?_
    rintro e w2 ⟨v, rfl, hf, hb2⟩
    obtain rfl := hf.none_
    have HB2 := Aside0.mk (HB0.out.trans (hb2.mono HB0.out.size))
    clear hf hb2
    go_wp2_with fail
    go_ret
    have hb3 := HB2.out.alloc HB2.out.size (.cells #[.string ⟨#[]⟩, .slice none 0 0] 66)
    exact ⟨rfl, H.out.below hb3, ButS.of hb3⟩
  | some s =>
    rw [hl, show errF (some s) = 0 from rfl] at HF
    rw [if_pos (by simp)]
    have hq := hq s hl
    have hqz : (10 : Int) ≤ (s.2.length : Int) := by omega
    clear hl hq
    go_enter Try.func21, Try.ntmps21
    go_wp2_with fail
    refine HF.out.mono ?_
    rintro e w2 ⟨v, rfl, hf, hb2⟩
    obtain ⟨A, c, rfl, hc, hr⟩ := hf.some_
    have HB2 := Aside0.mk (HB0.out.trans (hb2.mono HB0.out.size))
    clear hf hb2 hc hr
    go_wp2_with fail
    go_ret
    have hb3 := HB2.out.alloc HB2.out.size (.cells #[.string s.1, .slice A s.2.length c] 66)
    exact ⟨rfl, H.out.below hb3, ButS.of hb3⟩
theorem stage_any (hb g : Nat) (M : List (Int × Ses)) (n : Int) (x : Edi) (w : World) (h : BookAt w hb g M) (hn : i64 n) (hm : M.length ≤ 1000) :
    Calls Try.prog 21 #[.pointer (some ⟨hb, 0, none⟩), .int .i64 n, encEd x] w (Does w hb g (stageM M n x).1 (.int .i64 (stageM M n x).2)) := by
  unfold stageM
  cases hl : lookM M n with
  | none =>
    have := stage_err hb g M n x w h hn (fun s hs => by rw [hl] at hs; cases hs)
    rw [hl] at this
    exact this
  | some s =>
    dsimp only
    by_cases h10 : 10 ≤ s.2.length
    · rw [if_pos h10]
      have := stage_err hb g M n x w h hn (fun s' hs => by rw [hl] at hs; cases hs; exact h10)
      rw [hl] at this
      exact this
    · rw [if_neg h10]
      exact stage_ok hb g M n x s w h hn hm hl (by omega)
end Go.Proofs.Ytnbojemjaipnlaa.H
