/- BokV, BokW, BokX. -/
import Derived.Test.YtnbojemjaipnlaaEBokU
import Derived.Lib.AppendZeros
/-! ### BokV -/
namespace Go.Proofs.Ytnbojemjaipnlaa.H
open Go.RowKit Go.Proofs.Ytnbojemjaipnlaa.P Go.Proofs.YtnbojemjaipnlaaW.PrintWords Go.Proofs.YtnbojemjaipnlaaW.PrintLast Go.Proofs.YtnbojemjaipnlaaW.PrintMore
set_option linter.unusedVariables false
set_option linter.unusedSimpArgs false
set_option maxRecDepth 20000
theorem ownE_of {w : World} {B g cap : Nat} {cur : Array Value} {l : List Edi} (hB : B ≤ g) (hb : w.heap[g]? = some (.cells cur 37 (0, 0))) (hs : cur.size = cap * 8) (hn : l.length ≤ cap) (hm : cap ≤ maxLen)
    (h : ∀ (k : Nat) (u : Value), (eflat l)[k]? = some u → cur[k]? = some u) : OwnE B (.slice (some ⟨g, 0, none⟩) l.length cap) l w := by
  refine ⟨eflat_len l, .inr ⟨g, cap, cur, rfl, hB, hb, hn, hm, hs, ?_⟩⟩
  have hl := eflat_len l
  apply List.ext_getElem?
  intro k
  by_cases hk : k < l.length * 8
  · rw [List.getElem?_take_of_lt hk]
    have h1 : k < (eflat l).length := by omega
    have h2 := h k _ (List.getElem?_eq_getElem h1)
    rw [List.getElem?_eq_getElem h1, Array.getElem?_toList]
    exact h2
  · rw [List.getElem?_eq_none (by rw [List.length_take]; omega), List.getElem?_eq_none (by omega)]
theorem append_fresh (A : Option Addr) (c : Nat) (l : List Edi) (g : Nat) (V : World) (hr : Kd.C k37 V A l.length l) (hg : V.heap[g]? = some (.cells #[] 37 (0, 0))) (hl : l.length ≤ 1000) (B : Nat) (hB : B ≤ g) (hBV : B ≤ V.heap.size) :
    ∃ v2 V2, (∀ ty, (Builtin.append_ #[44, 44] ty #[.slice (some ⟨g, 0, none⟩) 0 0, .slice A l.length c]).run Try.prog V = .ok v2 V2) ∧ Below V.heap.size V V2 ∧ OwnE B v2 l V2 := by
  obtain ⟨i0, hi0, hz0, hzs, hzb⟩ := info_parts infoE
  by_cases hl0 : l = []
  · subst hl0
    have hsrc : Src Try.prog i0.size 44 (.slice A 0 c) 0 [] V := by
      rw [hzs]
      cases A with
      | none => exact Src.ofNil V Try.underlying44 c
      | some ad => exact Src.ofSlice V Try.underlying44 ad 0 c [] rfl (fun j u hj => by simp at hj) (fun u hu => by cases hu)
    have hrun := fun ty => run_append_room_src V 44 44 ty 37 i0 Try.underlying44 hi0 g 0 0 0 _ 0 [] hsrc (Nat.le_refl _) (fun j hj => by simp at hj) (fun j hj => by simp at hj)
    exact ⟨_, _, hrun, Below.refl _ _, ⟨rfl, .inr ⟨g, 0, #[], rfl, hB, hg, Nat.le_refl _, Nat.zero_le _, rfl, rfl⟩⟩⟩
  · have hpos : 0 < l.length := List.length_pos_iff.2 hl0
    obtain ⟨ad, rfl, _⟩ := hr.2.2 hpos
    have hold : (Builtin.firstCells i0.size 0 (.slice (some ⟨g, 0, none⟩) 0 0)).run Try.prog V.drew = .ok ([] : List Value).toArray V.drew := by
      rw [hzs]
      exact run_firstCells_some V.drew 8 0 ⟨g, 0, none⟩ 0 0 [] rfl (fun j u hj => by simp at hj)
    have hsrc : Src Try.prog i0.size 44 (.slice (some ad) l.length c) l.length (eflat l) V := by
      rw [hzs]
      exact Src.ofSlice V Try.underlying44 ad l.length c (eflat l) (eflat_len l) (reads_edits hr ad rfl) (eflat_one l)
    have hrun := fun ty => run_append_grow_src V 44 44 ty 37 i0 _ Try.underlying44 hi0 hz0 (some ⟨g, 0, none⟩) 0 0 [] hold _ l.length (eflat l) hsrc (by omega) (by omega) (by rw [hzb]; exact growslice_fits (by omega) (by omega))
    refine ⟨_, _, hrun, (below_drew (Below.refl _ V)).alloc (Nat.le_refl _) _, ?_⟩
    rw [Nat.zero_add]
    have hge : l.length ≤ grownCap V l.length 0 37 := grownCap_ge V _ _ _
    refine ownE_of (by omega) (blk_new V.drew _) ?_ hge (grownCap_le_maxLen V l.length 0 _ (by unfold maxLen; omega)) (fun k u hu => ?_)
    · have h8 : (Value.agg #[(.int .i64 0), (.int .i64 0), (.int .i64 0), (.int .i64 0), (.int .i64 0), (.int .u32 0), (.int .u32 0), (.int .i64 0)]).cells.size = 8 := rfl
      have hz : ∀ k, (Builtin.zeroCells (Value.agg #[(.int .i64 0), (.int .i64 0), (.int .i64 0), (.int .i64 0), (.int .i64 0), (.int .u32 0), (.int .u32 0), (.int .i64 0)]).cells k).size = k * 8 := fun k => by simp [Builtin.zeroCells, h8]
      rw [Array.size_append, hz, List.nil_append, List.size_toArray, eflat_len]
      omega
    · have hk := (List.getElem?_eq_some_iff.1 hu).1
      rw [List.nil_append, Array.getElem?_append_left (by rw [List.size_toArray]; exact hk), List.getElem?_toArray]
      exact hu
theorem ownE_below {w w' : World} {B : Nat} {v : Value} {l : List Edi} (h : OwnE B v l w) (hb : Below w.heap.size w w') : OwnE B v l w' := by
  obtain ⟨h1, ⟨e, h2⟩ | ⟨g, cap, cur, e, h2, h3, h4, h5, h6, h7⟩⟩ := h
  · exact ⟨h1, .inl ⟨e, h2⟩⟩
  · exact ⟨h1, .inr ⟨g, cap, cur, e, h2, blk_below h3 hb, h4, h5, h6, h7⟩⟩
theorem eflat_snoc (l : List Edi) (x : Edi) : eflat (l ++ [x]) = eflat l ++ ecells x := by unfold eflat; simp
set_option maxHeartbeats 4000000 in
theorem stageD_ok (mb : Nat) (M : List (Int × Ses)) (n : Int) (x : Edi) (s : Ses) (w : World) (h : DocAt w mb M) (hm : M.length ≤ 1000) (hu : RiseK M) (hl : lookM M n = some s) (h10 : s.2.length < 10) :
    Calls Try.prog 26 #[.pointer (some ⟨mb, 0, none⟩), .int .i64 n, encEd x] w (DoesD w mb (putM M n (s.1, s.2 ++ [x])) (.int .i64 0)) := by
  obtain ⟨i, e1, e2⟩ : ∃ i : Nat, ixM M n = (i : Int) ∧ M[i]? = some (n, s) := by
    rcases ixM_spec M n with ⟨_, e⟩ | ⟨i, s', e1, e2, e3⟩
    · rw [e] at hl; cases hl
    · rw [hl] at e3; cases e3; exact ⟨i, e1, e2⟩
  have hlt := (List.getElem?_eq_some_iff.1 e2).1
  rw [← put_set hu e2]
  obtain ⟨i0, hi0, hz0, hzs, hzb⟩ := info_parts infoE
  have H := Aside0.mk h
  have HM := Aside0.mk hm
  have H10 := Aside0.mk h10
  have HE := Aside0.mk e2
  have hut := Try.underlying28
  have hut2 := Try.underlying54
  have hut3 := Try.underlying37
  have HB0 := Aside0.mk ((Below.refl w.heap.size w).alloc (Nat.le_refl _) (.cells #[.int .i64 x.f0, .int .i64 x.f1.f0, .int .i64 x.f1.f1, .int .i64 x.f1.f2, .int .i64 x.f1.f3, .int .u32 x.f1.f4.f0, .int .u32 x.f1.f4.f1, .int .i64 x.f1.f5] 37))
  have HX := Aside0.mk (show (w.alloc (.cells #[.int .i64 x.f0, .int .i64 x.f1.f0, .int .i64 x.f1.f1, .int .i64 x.f1.f2, .int .i64 x.f1.f3, .int .u32 x.f1.f4.f0, .int .u32 x.f1.f4.f1, .int .i64 x.f1.f5] 37)).heap[w.heap.size]? = some (blkE x) from blk_new w _)
  have hfd := findD_any mb M n _ (h.below HB0.out) hm
  rw [e1] at hfd
  have HF := Aside0.mk hfd
  have hq : ¬ ((10 : Int) ≤ (s.2.length : Int)) := by omega
  unfold encEd
  clear h hm hl h10 e1 e2 hfd hu
  go_enter Try.func26, Try.ntmps26
  go_wp2_with fail
  refine HF.out.mono ?_
  rintro e w' ⟨rfl, rfl⟩
  generalize (w.alloc (.cells #[.int .i64 x.f0, .int .i64 x.f1.f0, .int .i64 x.f1.f1, .int .i64 x.f1.f2, .int .i64 x.f1.f3, .int .u32 x.f1.f4.f0, .int .u32 x.f1.f4.f1, .int .i64 x.f1.f5] 37)) = W0 at *
  obtain ⟨g, cap, A, c, r, hcap, _, r0, r1, r2, hc, hr⟩ := (H.out.below HB0.out).row HE.out
  have HC := Aside0.mk hc
  have HR := Aside0.mk hr
  clear hc hr
  go_upto_region 6 with (fail)
  have HBE := Aside0.mk ((Below.refl W0.heap.size W0).alloc (Nat.le_refl _) (.cells #[] 37))
  obtain ⟨g1, cap1, A1, c1, q, hcap1, _, q0, q1, q2, _, _⟩ := ((H.out.below HB0.out).below HBE.out).row HE.out
  have eA : A1 = A ∧ c1 = c ∧ g1 = g ∧ cap1 = cap := by
    have hcb : ∀ a : Addr, a.block < W0.heap.size → (W0.alloc (.cells #[] 37)).cell? a = W0.cell? a := fun a ha => World.cell?_of_block (w := W0) (HBE.out.block _ ha)
    have hg := block_lt_of_cell r
    have hg2 := block_lt_of_cell r2
    rw [hcb _ hg, r] at q
    simp only [Option.some.injEq, Value.slice.injEq, Addr.mk.injEq] at q
    obtain ⟨⟨rfl, _⟩, _, rfl⟩ := q
    rw [hcb _ hg2, r2] at q2
    simp only [Option.some.injEq, Value.slice.injEq] at q2
    exact ⟨q2.1.symm, q2.2.2.symm, rfl, rfl⟩
  obtain ⟨rfl, rfl, rfl, rfl⟩ := eA
  obtain ⟨v2, V2, hrun, hbv, hov⟩ := append_fresh A1 c1 s.2 W0.heap.size (W0.alloc (.cells #[] 37)) (Kd.C_below HR.out HBE.out) (blk_new W0 _) (by have := H10.out; omega) W0.heap.size (Nat.le_refl _) HBE.out.size
  have HRUN := Aside0.mk hrun
  have HV2 := Aside0.mk (HBE.out.trans (hbv.mono HBE.out.size))
  have HOV := Aside0.mk hov
  clear hrun hbv hov r r0 r1 r2
  go_upto_region 7 with (first | (at_builtin; refine Lib.wpList_append_run _ rfl (.tmp 24) (.tmp 32) 44 44 rfl (.slice (some ⟨W0.heap.size, 0, none⟩) 0 0) (.slice A1 s.2.length c1) rfl rfl _ _ (HRUN.out _) ?_))
  obtain ⟨A2, c2, rfl, hc2, _⟩ := C_ownE HOV.out
  have HX2 := Aside0.mk (blk_below HX.out HV2.out)
  obtain ⟨y0, y1, y2, y3, y4, y5, y6, y7⟩ := edit_cells HX2.out
  have HV3 := Aside0.mk (HV2.out.alloc HV2.out.size (.cells #[.int .i64 x.f0, .int .i64 x.f1.f0, .int .i64 x.f1.f1, .int .i64 x.f1.f2, .int .i64 x.f1.f3, .int .u32 x.f1.f4.f0, .int .u32 x.f1.f4.f1, .int .i64 x.f1.f5] 37))
  have HN3 := Aside0.mk (blk_new V2 (.cells #[.int .i64 x.f0, .int .i64 x.f1.f0, .int .i64 x.f1.f1, .int .i64 x.f1.f2, .int .i64 x.f1.f3, .int .u32 x.f1.f4.f0, .int .u32 x.f1.f4.f1, .int .i64 x.f1.f5] 37))
  have HO3 := Aside0.mk (ownE_below HOV.out ((Below.refl _ V2).alloc (Nat.le_refl _) (.cells #[.int .i64 x.f0, .int .i64 x.f1.f0, .int .i64 x.f1.f1, .int .i64 x.f1.f2, .int .i64 x.f1.f3, .int .u32 x.f1.f4.f0, .int .u32 x.f1.f4.f1, .int .i64 x.f1.f5] 37)))
  clear hc2 q q0 q1 q2
  go_upto_region 8 with (first | (at_builtin; refine wpList_append_own _ rfl (.tmp 34) (.tmp 36) 44 rfl W0.heap.size 37 i0 (.agg #[(.int .i64 0), (.int .i64 0), (.int .i64 0), (.int .i64 0), (.int .i64 0), (.int .u32 0), (.int .u32 0), (.int .i64 0)]) 8 56 Try.underlying44 hi0 hz0 hzs hzb rfl (by decide) (.slice A2 s.2.length c2) s.2.length (eflat s.2) rfl HO3.out ⟨V2.heap.size, 0, none⟩ 1 1 (ecells x) rfl rfl (fun j u hj => by rw [Addr.add_lit, blk_cell HN3.out, Nat.zero_add, List.getElem?_toArray]; exact hj) (ecells_one x) (by have := H10.out; unfold maxLen; omega) (by have := H10.out; omega) HV3.out.size ?_; intro v3 w3 ho3 hg3 _))
  rw [← eflat_snoc] at ho3
  have HO4 := Aside0.mk (show OwnE W0.heap.size v3 (s.2 ++ [x]) w3 from by unfold OwnE; rw [show (s.2 ++ [x]).length = s.2.length + 1 from by simp]; exact ho3)
  have HB4 := Aside0.mk (HB0.out.trans ((HV3.out.grown hg3 HV3.out.size (fun q hq => (HO3.out.lt q hq).1)).mono HB0.out.size))
  clear ho3 hg3 y0 y1 y2 y3 y4 y5 y6 y7
  obtain ⟨l2, hl2⟩ : ∃ l2, l2 = s.2 ++ [x] := ⟨_, rfl⟩
  rw [← hl2] at HO4
  have HL2 := Aside0.mk hl2
  clear hl2
  obtain ⟨A3, c3, rfl, hc3, hr3⟩ := C_ownE HO4.out
  have hd4 := H.out.below HB4.out
  obtain ⟨g4, cap4, A4, c4, z, hcap4, hlt4, z0, z1, z2, _, _⟩ := hd4.row HE.out
  have HT := Aside0.mk (turn_any mb M i ⟨n, s.1, A3, l2.length, c3⟩ (n, (s.1, l2)) w3 hd4 hlt4 ⟨rfl, rfl, rfl, hc3, hr3⟩ HM.out)
  unfold rowV at HT
  clear hd4 hc3 hr3
  go_wp2_with fail
  (with_reducible refine HT.out.mono ?_)
  rintro e w5 ⟨rfl, hd, hb⟩
  have HD := Aside0.mk hd
  have HBB := Aside0.mk ((ButS.of HB4.out).trans hb)
  clear hd hb HT
  go_wp2_with fail
  go_ret
  exact ⟨rfl, by rw [← HL2.out]; exact HD.out, HBB.out⟩
set_option maxHeartbeats 4000000 in
theorem stageD_err (mb : Nat) (M : List (Int × Ses)) (n : Int) (x : Edi) (w : World) (h : DocAt w mb M) (hm : M.length ≤ 1000) (hq : ∀ s, lookM M n = some s → 10 ≤ s.2.length) :
    Calls Try.prog 26 #[.pointer (some ⟨mb, 0, none⟩), .int .i64 n, encEd x] w (DoesD w mb M (.int .i64 (if (lookM M n).isSome = true then 182 else 181))) := by
  have H := Aside0.mk h
  have hut := Try.underlying28
  have hut2 := Try.underlying54
  have HB0 := Aside0.mk ((Below.refl w.heap.size w).alloc (Nat.le_refl _) (.cells #[.int .i64 x.f0, .int .i64 x.f1.f0, .int .i64 x.f1.f1, .int .i64 x.f1.f2, .int .i64 x.f1.f3, .int .u32 x.f1.f4.f0, .int .u32 x.f1.f4.f1, .int .i64 x.f1.f5] 37))
  have hfd := findD_any mb M n _ (h.below HB0.out) hm
  unfold encEd
  rcases ixM_spec M n with ⟨e1, e2⟩ | ⟨i, s, e1, e2, e3⟩
  · rw [e1] at hfd
    rw [e2, if_neg (by simp)]
    have HF := Aside0.mk hfd
    clear hfd h e1 e2 hq
    go_enter Try.func26, Try.ntmps26
    go_wp2_with fail
    refine HF.out.mono ?_
    rintro e w' ⟨rfl, rfl⟩
    go_wp2_with fail
    go_ret
    exact ⟨rfl, H.out.below HB0.out, ButS.of HB0.out⟩
  · rw [e1] at hfd
    have hq := hq s e3
    rw [e3, if_pos (by simp)]
    have hqz : (10 : Int) ≤ (s.2.length : Int) := by omega
    have HF := Aside0.mk hfd
    obtain ⟨g, cap, A, c, r, hcap, hlt, r0, r1, r2, _, _⟩ := (h.below HB0.out).row e2
    clear hfd h e1 e2 e3 hq
    go_enter Try.func26, Try.ntmps26
    go_wp2_with fail
    refine HF.out.mono ?_
    rintro e w' ⟨rfl, rfl⟩
    go_wp2_with fail
    go_ret
    exact ⟨rfl, H.out.below HB0.out, ButS.of HB0.out⟩
theorem stageD_any (mb : Nat) (M : List (Int × Ses)) (n : Int) (x : Edi) (w : World) (h : DocAt w mb M) (hm : M.length ≤ 1000) (hu : RiseK M) :
    Calls Try.prog 26 #[.pointer (some ⟨mb, 0, none⟩), .int .i64 n, encEd x] w (DoesD w mb (stageM M n x).1 (.int .i64 (stageM M n x).2)) := by
  unfold stageM
  cases hl : lookM M n with
  | none =>
    have := stageD_err mb M n x w h hm (fun s hs => by rw [hl] at hs; cases hs)
    rw [hl] at this
    exact this
  | some s =>
    dsimp only
    by_cases h10 : 10 ≤ s.2.length
    · rw [if_pos h10]
      have := stageD_err mb M n x w h hm (fun s' hs => by rw [hl] at hs; cases hs; exact h10)
      rw [hl] at this
      exact this
    · rw [if_neg h10]
      exact stageD_ok mb M n x s w h hm hu hl (by omega)
end Go.Proofs.Ytnbojemjaipnlaa.H
/-! ### BokW -/
namespace Go.Proofs.Ytnbojemjaipnlaa.H
open Go.RowKit Go.Proofs.Ytnbojemjaipnlaa.P Go.Proofs.YtnbojemjaipnlaaW.PrintWords Go.Proofs.YtnbojemjaipnlaaW.PrintLast Go.Proofs.YtnbojemjaipnlaaW.PrintMore
set_option linter.unusedVariables false
set_option linter.unusedSimpArgs false
set_option maxRecDepth 20000
theorem dflat_take (R : List RD) (i : Nat) : ∀ (k : Nat) (u : Value), (dflat (R.take i))[k]? = some u → (dflat R)[k]? = some u := by
  intro k u hu
  have e : dflat R = dflat (R.take i) ++ dflat (R.drop i) := by rw [← dflat_append, List.take_append_drop]
  rw [e, List.getElem?_append_left (List.getElem?_eq_some_iff.1 hu).1]
  exact hu
theorem dflat_drop (R : List RD) (i : Nat) (hi : i ≤ R.length) : ∀ (k : Nat) (u : Value), (dflat (R.drop i))[k]? = some u → (dflat R)[i * 3 + k]? = some u := by
  intro k u hu
  have e : dflat R = dflat (R.take i) ++ dflat (R.drop i) := by rw [← dflat_append, List.take_append_drop]
  have hl : (dflat (R.take i)).length = i * 3 := by rw [dflat_len, List.length_take]; omega
  rw [e, List.getElem?_append_right (by omega), hl, show i * 3 + k - i * 3 = k by omega]
  exact hu
theorem ownD_below {w w' : World} {B : Nat} {v : Value} {R : List RD} (h : OwnD B v R w) (hb : Below w.heap.size w w') : OwnD B v R w' := ownD_keep h (fun g _ _ hg => hb.block g hg)
theorem Both.take {α β : Type} {r : α → β → Prop} : ∀ {l : List α} {m : List β} (i : Nat), Both r l m → Both r (l.take i) (m.take i)
  | _, _, _, .nil => by simp; exact .nil
  | _, _, 0, .cons h1 h2 => .nil
  | _, _, i + 1, .cons h1 h2 => .cons h1 (h2.take i)
theorem Both.drop {α β : Type} {r : α → β → Prop} : ∀ {l : List α} {m : List β} (i : Nat), Both r l m → Both r (l.drop i) (m.drop i)
  | _, _, _, .nil => by simp; exact .nil
  | _, _, 0, .cons h1 h2 => .cons h1 h2
  | _, _, i + 1, .cons h1 h2 => h2.drop i
theorem DocAt.raw {w : World} {mb : Nat} {M : List (Int × Ses)} (h : DocAt w mb M) (hp : 0 < M.length) : ∃ g cap cur R, w.heap[mb]? = some (.cells #[.slice (some ⟨g, 0, none⟩) R.length cap] 28 (0, 0)) ∧ w.heap[g]? = some (.cells cur 54 (0, 0)) ∧ R.length ≤ cap ∧ cap ≤ maxLen ∧ (∀ (k : Nat) (u : Value), (dflat R)[k]? = some u → cur[k]? = some u) ∧ Both (RDat w) R M := by
  obtain ⟨v, R, h1, h2, h3⟩ := h
  have hl := h3.len
  rcases ownD_cases h2 with ⟨_, rfl⟩ | ⟨g, cap, cur, rfl, _, k1, k2, k3, _, k5⟩
  · simp at hl; omega
  · exact ⟨g, cap, cur, R, h1, k1, k2, k3, k5, h3⟩
set_option maxHeartbeats 4000000 in
theorem closeD_ok (mb : Nat) (M : List (Int × Ses)) (n : Int) (s : Ses) (w : World) (h : DocAt w mb M) (hm : M.length ≤ 1000) (hu : RiseK M) (hl : lookM M n = some s) :
    Calls Try.prog 24 #[.pointer (some ⟨mb, 0, none⟩), .int .i64 n] w (DoesD w mb (delM M n) (.int .i64 0)) := by
  obtain ⟨i, e1, e2⟩ : ∃ i : Nat, ixM M n = (i : Int) ∧ M[i]? = some (n, s) := by
    rcases ixM_spec M n with ⟨_, e⟩ | ⟨i, s', e1, e2, e3⟩
    · rw [e] at hl; cases hl
    · rw [hl] at e3; cases e3; exact ⟨i, e1, e2⟩
  have hlt := (List.getElem?_eq_some_iff.1 e2).1
  rw [del_cut hu e2]
  obtain ⟨i0, hi0, hz0, hzs, hzb⟩ := info_parts infoD
  have H := Aside0.mk h
  have hfd := findD_any mb M n _ h hm
  rw [e1] at hfd
  have HF := Aside0.mk hfd
  obtain ⟨g, cap, cur, R, h1, k1, k2, k3, k5, hb0⟩ := h.raw (by omega)
  have hlen := hb0.len
  have HBOTH := Aside0.mk (Both.append (hb0.drop (i + 1)) (hb0.take i))
  have HMB := Aside0.mk h1
  have HG := Aside0.mk k1
  have HCS := Aside0.mk k5
  have HS := Aside0.mk (show R.length ≤ 1000 ∧ i < R.length ∧ R.length ≤ cap ∧ cap ≤ maxLen from ⟨by omega, by omega, k2, k3⟩)
  have hut := Try.underlying28
  have c0 : w.cell? ⟨mb, 0, none⟩ = some (.slice (some ⟨g, 0, none⟩) R.length cap) := blk_cell h1 0
  have hi1 : (i : Int) ≤ (cap : Int) := by omega
  have hi2 : (0 : Int) ≤ (i : Int) := by omega
  have hi3 : (i : Int) + 1 ≤ (R.length : Int) := by omega
  have hi4 : (R.length : Int) ≤ (cap : Int) := by omega
  have hi5 : i + 1 ≤ R.length := by omega
  have hc63 : cap ≤ 9223372036854775807 := by unfold maxLen at k3; omega
  have HTK := Aside0.mk (show (dflat (R.take i)).length = i * 3 from by rw [dflat_len, List.length_take]; omega)
  have HDR := Aside0.mk (show (dflat (R.drop (i + 1))).length = (R.length - (i + 1)) * 3 from by rw [dflat_len, List.length_drop])
  clear h hm hu hl e1 e2 hfd h1 k1 k2 k3 k5 hb0 hlen hlt c0
  go_enter Try.func24, Try.ntmps24
  go_wp2_with fail
  refine HF.out.mono ?_
  rintro e w' ⟨rfl, rfl⟩
  go_upto_region 4 with (fail)
  have HBE := Aside0.mk ((Below.refl w.heap.size w).alloc (Nat.le_refl _) (.cells #[] 54))
  have HBN := Aside0.mk (blk_new w (.cells #[] 54))
  have c1 : (w.alloc (.cells #[] 54)).cell? ⟨mb, 0, none⟩ = some (.slice (some ⟨g, 0, none⟩) R.length cap) := blk_cell (blk_below HMB.out HBE.out) 0
  go_upto_region 5 with (first | (at_builtin; refine wpList_append_own _ rfl (.tmp 12) (.tmp 18) 26 rfl w.heap.size 54 i0 (.agg #[(.int .i64 0), (.string ⟨#[]⟩), (.slice none 0 0)]) 3 48 Try.underlying26 hi0 hz0 hzs hzb rfl (by decide) (.slice (some ⟨w.heap.size, 0, none⟩) 0 0) 0 [] rfl ⟨rfl, .inr ⟨w.heap.size, 0, #[], rfl, Nat.le_refl _, HBN.out, Nat.le_refl _, by decide, rfl, rfl⟩⟩ ⟨g, 0, none⟩ i cap (dflat (R.take i)) rfl HTK.out (fun k u hu => by rw [Addr.add_lit, blk_cell (blk_below HG.out HBE.out), Nat.zero_add]; exact HCS.out _ _ (dflat_take R i k u hu)) (dflat_one _) (by have := HS.out; unfold maxLen; omega) (by have := HS.out; omega) HBE.out.size ?_; intro v2 w2 ho3 hg3 _))
  rw [Nat.zero_add, List.nil_append] at ho3
  have HB2 := Aside0.mk (HBE.out.grown hg3 HBE.out.size (fun q hq => by simp [Value.ownBlock] at hq; omega))
  have HO2 := Aside0.mk ho3
  obtain ⟨A2, c2, rfl, hc2⟩ : ∃ A2 c2, v2 = .slice A2 i c2 ∧ i ≤ c2 := by
    obtain ⟨q1, ⟨e, q2⟩ | ⟨g', cap', cur', e, q2, q3, q4, q5, q6, q7⟩⟩ := ho3
    · have := HTK.out
      rw [q2] at this
      have hi : i = 0 := by simp at this; omega
      exact ⟨none, 0, by rw [e, hi], by omega⟩
    · exact ⟨_, cap', e, q4⟩
  have c3 : w2.cell? ⟨mb, 0, none⟩ = some (.slice (some ⟨g, 0, none⟩) R.length cap) := blk_cell (blk_below HMB.out HB2.out) 0
  have c4 := blk_frozen (blk_below HMB.out HB2.out) 0
  have htn : ((i : Int) + 1).toNat = i + 1 := by omega
  have hb1 : (0 : Int) ≤ (i : Int) + 1 := by omega
  have hb2 : (i : Int) + 1 ≤ (cap : Int) := by omega
  have HFIN := Aside0.mk (fun v3 w3 (hb3 : Below w.heap.size w w3) (ho4 : OwnD w.heap.size v3 (R.take i ++ R.drop (i + 1)) w3) => doc_put H.out hb3 ho4 (Nat.le_refl _) HBOTH.out)
  have HLN := Aside0.mk (show (R.take i ++ R.drop (i + 1)).length = i + (R.length - (i + 1)) from by have := HS.out; rw [List.length_append, List.length_take, List.length_drop]; omega)
  clear ho3 hg3 hc2 c1
  by_cases hcap : cap = i + 1
  · subst hcap
    go_upto_region 6 with (first | (at_builtin; refine wpList_append_own _ rfl (.tmp 20) (.tmp 27) 26 rfl w.heap.size 54 i0 (.agg #[(.int .i64 0), (.string ⟨#[]⟩), (.slice none 0 0)]) 3 48 Try.underlying26 hi0 hz0 hzs hzb rfl (by decide) (.slice A2 i c2) i (dflat (R.take i)) rfl HO2.out ⟨g, 0, none⟩ (R.length - (i + 1)) 0 (dflat (R.drop (i + 1))) rfl HDR.out (fun k u hu => by have := (List.getElem?_eq_some_iff.1 hu).1; have := HDR.out; have := HS.out; omega) (dflat_one _) (by have := HS.out; unfold maxLen; omega) (by have := HS.out; omega) HB2.out.size ?_; intro v3 w3 ho3 hg3 _))
    have HB3 := Aside0.mk (HB2.out.grown hg3 HB2.out.size (fun q hq => (HO2.out.lt q hq).1))
    rw [← dflat_append, ← HLN.out] at ho3
    have HD := Aside0.mk (HFIN.out v3 w3 HB3.out ho3)
    have c5 : w3.cell? ⟨mb, 0, none⟩ = some (.slice (some ⟨g, 0, none⟩) R.length (i + 1)) := blk_cell (blk_below HMB.out HB3.out) 0
    have c6 := blk_frozen (blk_below HMB.out HB3.out) 0
    obtain ⟨A3, c3v, rfl, _⟩ := ownD_slice (B := w.heap.size) (R := R.take i ++ R.drop (i + 1)) ho3
    obtain ⟨nn, hnn⟩ : ∃ nn, (R.take i ++ R.drop (i + 1)).length = nn := ⟨_, rfl⟩
    rw [hnn] at HD
    clear ho3 hg3 c3 c4 HFIN HLN HBOTH
    generalize (R.take i ++ R.drop (i + 1)).length = nn' at *
    subst hnn
    go_wp2_with fail
    go_ret
    exact ⟨rfl, HD.out.1, HD.out.2⟩
  · have hcap1 : ¬ (i + 1 = cap) := fun q => hcap q.symm
    go_upto_region 6 with (first | (at_builtin; refine wpList_append_own _ rfl (.tmp 20) (.tmp 27) 26 rfl w.heap.size 54 i0 (.agg #[(.int .i64 0), (.string ⟨#[]⟩), (.slice none 0 0)]) 3 48 Try.underlying26 hi0 hz0 hzs hzb rfl (by decide) (.slice A2 i c2) i (dflat (R.take i)) rfl HO2.out ⟨g, (i + 1) * 3, none⟩ (R.length - (i + 1)) (cap - (i + 1)) (dflat (R.drop (i + 1))) rfl HDR.out (fun k u hu => by rw [Addr.add_lit, blk_cell (blk_below HG.out HB2.out)]; exact HCS.out _ _ (dflat_drop R (i + 1) (by have := HS.out; omega) k u hu)) (dflat_one _) (by have := HS.out; unfold maxLen; omega) (by have := HS.out; omega) HB2.out.size ?_; intro v3 w3 ho3 hg3 _))
    have HB3 := Aside0.mk (HB2.out.grown hg3 HB2.out.size (fun q hq => (HO2.out.lt q hq).1))
    rw [← dflat_append, ← HLN.out] at ho3
    have HD := Aside0.mk (HFIN.out v3 w3 HB3.out ho3)
    have c5 : w3.cell? ⟨mb, 0, none⟩ = some (.slice (some ⟨g, 0, none⟩) R.length cap) := blk_cell (blk_below HMB.out HB3.out) 0
    have c6 := blk_frozen (blk_below HMB.out HB3.out) 0
    obtain ⟨A3, c3v, rfl, _⟩ := ownD_slice (B := w.heap.size) (R := R.take i ++ R.drop (i + 1)) ho3
    obtain ⟨nn, hnn⟩ : ∃ nn, (R.take i ++ R.drop (i + 1)).length = nn := ⟨_, rfl⟩
    rw [hnn] at HD
    clear ho3 hg3 c3 c4 HFIN HLN HBOTH
    generalize (R.take i ++ R.drop (i + 1)).length = nn' at *
    subst hnn
    go_wp2_with fail
    go_ret
    exact ⟨rfl, HD.out.1, HD.out.2⟩
theorem closeD_any (mb : Nat) (M : List (Int × Ses)) (n : Int) (w : World) (h : DocAt w mb M) (hm : M.length ≤ 1000) (hu : RiseK M) :
    Calls Try.prog 24 #[.pointer (some ⟨mb, 0, none⟩), .int .i64 n] w (DoesD w mb (closeM M n) (.int .i64 (errF (lookM M n)))) := by
  unfold closeM
  rcases ixM_spec M n with ⟨e1, e2⟩ | ⟨i, s, e1, e2, e3⟩
  · have hf := findD_any mb M n w h hm
    have H := Aside0.mk h
    rw [e1] at hf
    rw [e2]
    have HF := Aside0.mk hf
    clear hf h e1 e2 hu
    go_enter Try.func24, Try.ntmps24
    go_wp2_with fail
    refine HF.out.mono ?_
    rintro e w' ⟨rfl, rfl⟩
    go_wp2_with fail
    go_ret
    exact DoesD.same H.out _
  · rw [e3]
    exact closeD_ok mb M n s w h hm hu e3
end Go.Proofs.Ytnbojemjaipnlaa.H
/-! ### BokX -/
namespace Go.Proofs.Ytnbojemjaipnlaa.H
open Go.RowKit Go.Proofs.Ytnbojemjaipnlaa.P Go.Proofs.YtnbojemjaipnlaaW.PrintWords Go.Proofs.YtnbojemjaipnlaaW.PrintLast Go.Proofs.YtnbojemjaipnlaaW.PrintMore
set_option linter.unusedVariables false
set_option linter.unusedSimpArgs false
set_option maxRecDepth 20000
theorem look_del {α : Type} (M : List (Int × α)) {n k : Int} (h : k ≠ n) : lookM (delM M n) k = lookM M k := by
  induction M with
  | nil => rfl
  | cons p M ih =>
    obtain ⟨a, v⟩ := p
    unfold delM at *
    rw [List.filter_cons, lookM_cons]
    by_cases c : a = n
    · rw [if_neg (by simp [c]), if_neg (by omega)]
      exact ih
    · rw [if_pos (by simpa using c), lookM_cons, ih]
theorem len_del {α : Type} (M : List (Int × α)) {n : Int} (h : (lookM M n).isSome = true) : (delM M n).length + 1 ≤ M.length := by
  induction M with
  | nil => simp [lookM] at h
  | cons p M ih =>
    obtain ⟨a, v⟩ := p
    rw [lookM_cons] at h
    unfold delM at *
    rw [List.filter_cons, List.length_cons]
    by_cases c : a = n
    · rw [if_neg (by simp [c])]
      have := List.length_filter_le (fun p => !p.1 == n) M
      omega
    · rw [if_neg c] at h
      rw [if_pos (by simpa using c), List.length_cons]
      have := ih h
      omega
theorem pigeon {α : Type} : ∀ (K : List Int) (M : List (Int × α)), K.Nodup → (∀ k ∈ K, (lookM M k).isSome = true) → K.length ≤ M.length
  | [], _, _, _ => Nat.zero_le _
  | k :: K, M, hn, h => by
    have hn2 := List.nodup_cons.1 hn
    have h1 := pigeon K (delM M k) hn2.2 (fun x hx => by
      rw [look_del M (fun e => hn2.1 (by rw [← e]; exact hx))]
      exact h x (List.mem_cons_of_mem _ hx))
    have h2 := len_del M (h k (by simp))
    rw [List.length_cons]
    omega
theorem free_none {M : List (Int × Ses)} (h : freeM M 4 1 = none) : 4 ≤ M.length := by
  have hs : ∀ (k j : Nat), freeM M k j = none → ∀ i, j ≤ i → i < j + k → (lookM M (i : Int)).isSome = true := by
    intro k
    induction k with
    | zero => intro j _ i h1 h2; omega
    | succ k ih =>
      intro j hf i h1 h2
      rw [freeM] at hf
      by_cases c : (lookM M (j : Int)).isSome = true
      · rw [if_pos c] at hf
        rcases Nat.eq_or_lt_of_le h1 with e | h3
        · rw [← e]; exact c
        · exact ih (j + 1) hf i h3 (by omega)
      · rw [if_neg c] at hf; cases hf
  have := pigeon [1, 2, 3, 4] M (by decide) (fun k hk => by
    simp at hk
    rcases hk with rfl | rfl | rfl | rfl
    · exact hs 4 1 h 1 (by omega) (by omega)
    · exact hs 4 1 h 2 (by omega) (by omega)
    · exact hs 4 1 h 3 (by omega) (by omega)
    · exact hs 4 1 h 4 (by omega) (by omega))
  simpa using this
theorem free_some {M : List (Int × Ses)} : ∀ (k j : Nat) (n : Int), freeM M k j = some n → ∃ m : Nat, n = (m : Int) ∧ j ≤ m ∧ m < j + k ∧ lookM M n = none
  | 0, j, n, h => by cases h
  | k + 1, j, n, h => by
    rw [freeM] at h
    by_cases c : (lookM M (j : Int)).isSome = true
    · rw [if_pos c] at h
      obtain ⟨m, h1, h2, h3, h4⟩ := free_some k (j + 1) n h
      exact ⟨m, h1, by omega, by omega, h4⟩
    · rw [if_neg c] at h
      cases h
      exact ⟨j, rfl, Nat.le_refl _, by omega, by simpa using c⟩
theorem look_some_of {M : List (Int × Ses)} {p : Int × Ses} (h : p ∈ M) : (lookM M p.1).isSome = true := by
  unfold lookM
  rw [Option.isSome_map, List.isSome_find?, List.any_eq_true]
  exact ⟨p, h, by simp⟩
theorem free_len {M : List (Int × Ses)} (hu : RiseK M) (hr : ∀ p ∈ M, 1 ≤ p.1 ∧ p.1 ≤ 4) (h : 4 ≤ M.length) : freeM M 4 1 = none := by
  cases hf : freeM M 4 1 with
  | none => rfl
  | some n =>
    obtain ⟨m, rfl, h1, h2, h3⟩ := free_some 4 1 n hf
    have hk : (M.map (·.1)).Pairwise (· < ·) := by rw [List.pairwise_map]; exact hu
    have hlen : (M.map (·.1)).length ≤ 3 := by
      have hsub : ∀ a ∈ M.map (·.1), (lookM ((([1, 2, 3, 4] : List Int).filter (fun x => x ≠ (m : Int))).map (fun x => (x, ()))) a).isSome = true := by
        intro a ha
        obtain ⟨p, hp, rfl⟩ := List.mem_map.1 ha
        have hr1 := hr p hp
        have hne : p.1 ≠ (m : Int) := fun e => by
          have := look_some_of hp
          rw [e, h3] at this
          cases this
        unfold lookM
        rw [Option.isSome_map, List.isSome_find?, List.any_eq_true]
        refine ⟨(p.1, ()), List.mem_map.2 ⟨p.1, List.mem_filter.2 ⟨?_, by simpa using hne⟩, rfl⟩, by simp⟩
        simp
        omega
      have hnd : (M.map (·.1)).Nodup := hk.imp (fun {a b} (q : a < b) => by intro e; omega)
      have := pigeon (M.map (·.1)) _ hnd hsub
      have hf3 : ((([1, 2, 3, 4] : List Int).filter (fun x => x ≠ (m : Int))).map (fun x => (x, ()))).length ≤ 3 := by
        rw [List.length_map]
        have : m = 1 ∨ m = 2 ∨ m = 3 ∨ m = 4 := by omega
        rcases this with rfl | rfl | rfl | rfl <;> decide
      omega
    rw [List.length_map] at hlen
    omega
theorem dflat_snoc (K : List RD) (y : RD) : dflat (K ++ [y]) = dflat K ++ dcells y := by unfold dflat; simp
theorem ownD_snoc {w : World} {B : Nat} {v : Value} {K : List RD} {y : RD} (h : w.ownsRow B 54 3 v (K.length + 1) (dflat K ++ dcells y)) : OwnD B v (K ++ [y]) w := by
  unfold OwnD
  rw [dflat_snoc, show (K ++ [y]).length = K.length + 1 from by simp]
  exact h
end Go.Proofs.Ytnbojemjaipnlaa.H
