/- least: walked. -/
import Derived.Test.YtbiccahkniadfaaTree3
namespace Go.Proofs.Ytbiccahkniadfaa.H
open Go.RowKit Go.Proofs.Ytbiccahkniadfaa.P Go.Proofs.YtbiccahkniadfaaW.PrintWords Go.Proofs.YtbiccahkniadfaaW.PrintLast Go.Proofs.YtbiccahkniadfaaW.PrintMore
set_option linter.unusedVariables false
set_option linter.unusedSimpArgs false
/-- The least pair, and the tree without it. -/
def leastT : T → (Int × Int) × T
  | .leaf => ((0, 0), .leaf)
  | .node .leaf k v r => ((k, v), r)
  | .node (.node ll lk lv lr) k v r => ((leastT (.node ll lk lv lr)).1, evenT (leastT (.node ll lk lv lr)).2 k v r)
theorem sz_least : ∀ t : T, sz (leastT t).2 ≤ sz t
  | .leaf => by simp [leastT]
  | .node .leaf k v r => by simp only [leastT, sz]; omega
  | .node (.node ll lk lv lr) k v r => by
    have h := sz_least (.node ll lk lv lr)
    rw [leastT, sz_even]
    simp only [sz] at h ⊢
    omega
theorem far2 {w : World} {g h i : Nat} {v u u' : Value} (hne : ¬ g = h) (hc : w.cell? ⟨g, i, none⟩ = some v) : ((w.setCell ⟨h, 0, none⟩ u).setCell ⟨h, 1, none⟩ u').cell? ⟨g, i, none⟩ = some v := by
  rw [World.cell?_of_block (w := w.setCell ⟨h, 0, none⟩ u) (Below.heap_setCell _ _ _ _ hne), World.cell?_of_block (w := w) (Below.heap_setCell _ _ _ _ hne)]
  exact hc
/-- A pair's block may be written: no tree lies in it. -/
theorem TreeAt.far {W : World} {h j : Nat} {u : Value} {cs : Array Value} (hh : W.heap[h]? = some (.cells cs 45 (0, 0))) : ∀ {t : T} {p : Option Addr}, TreeAt W p t → TreeAt (W.setCell ⟨h, j, none⟩ u) p t
  | .leaf, _, h1 => h1
  | .node l k v r, _, ⟨g, pl, pr, h1, h2, h3, h4⟩ => by
    have hne : g ≠ h := by
      rintro rfl
      rw [hh] at h2
      injection h2 with h2
      injection h2 with _ h2
      exact absurd h2 (by decide)
    exact ⟨g, pl, pr, h1, (Below.heap_setCell W ⟨h, j, none⟩ u g hne).trans h2, TreeAt.far hh h3, TreeAt.far hh h4⟩
set_option maxRecDepth 20000 in
set_option maxHeartbeats 4000000 in
theorem least_any (t : T) : ∀ (l : T) (k v : Int) (r : T), t = .node l k v r → ∀ (p : Option Addr) (w : World), TreeAt w p t → sz t ≤ 40000 →
    Calls Try.prog 40 #[.pointer p] w fun e w' => (∃ q, e = .returned (.tuple #[.agg #[.int .u64 (leastT t).1.1, .int .i64 (leastT t).1.2], .pointer q]) ∧ TreeAt w' q (leastT t).2) ∧ Below w.heap.size w w' := by
  induction t with
  | leaf =>
    intro l k v r e
    cases e
  | node l k v r ihl ihr =>
    intro _ _ _ _ _ p w h hs
    obtain ⟨g, pl, pr, rfl, hg, hl, hr⟩ := h
    have HSZ := Aside0.mk (show sz l + sz r + 1 ≤ 40000 by simp only [sz] at hs; omega)
    have HB0 := Aside0.mk ((Below.refl w.heap.size w).alloc (Nat.le_refl _) (.cells #[.int .u64 0, .int .i64 0] 45))
    have HX0 := Aside0.mk (blk_new w (.cells #[.int .u64 0, .int .i64 0] 45))
    have HG0 := Aside0.mk (blk_below hg HB0.out)
    have HL0 := Aside0.mk (hl.below HB0.out)
    have HR0 := Aside0.mk (hr.below HB0.out)
    have HRW := Aside0.mk hr
    have HGH := Aside0.mk (blk_lt hg)
    have IHL := Aside0.mk ihl
    have c2 := blk_cell HG0.out 2
    clear hg hl hr hs ihl ihr
    go_enter Try.func40, Try.ntmps40
    cases l with
    | leaf =>
      obtain rfl : pl = none := HL0.out
      go_wp2_with fail
      generalize hw0 : (w.alloc (.cells #[.int .u64 0, .int .i64 0] 45)) = w0 at *
      have HW0 := Aside0.mk hw0
      clear hw0
      have hN : w0.cell? ⟨g, 0, none⟩ = some (.int .u64 k) ∧ w0.cell? ⟨g, 1, none⟩ = some (.int .i64 v) ∧ w0.cell? ⟨g, 2, none⟩ = some (.pointer none) ∧ w0.cell? ⟨g, 3, none⟩ = some (.pointer pr) := node_cells HG0.out
      have k0 : w0.cell? ⟨w.heap.size, 0, none⟩ = some (.int .u64 0) := blk_cell HX0.out 0
      have k1 : w0.cell? ⟨w.heap.size, 1, none⟩ = some (.int .i64 0) := blk_cell HX0.out 1
      have f0 : w0.frozen? ⟨w.heap.size, 0, none⟩ = false := blk_frozen HX0.out 0
      have f1 : w0.frozen? ⟨w.heap.size, 1, none⟩ = false := blk_frozen HX0.out 1
      have hne : ¬ g = w.heap.size := by have := HGH.out; omega
      refine wp_region_held_drew (S := (fun w' => w'.cell? ⟨g, 0, none⟩ = some (.int .u64 k) ∧ w'.cell? ⟨g, 1, none⟩ = some (.int .i64 v) ∧ w'.cell? ⟨g, 2, none⟩ = some (.pointer none) ∧ w'.cell? ⟨g, 3, none⟩ = some (.pointer pr))) (by kernel_rfl) ?hSa0 (fun hHeld => ?_)
      case hSa0 => first | assumption | exact ⟨far2 hne hN.1, far2 hne hN.2.1, far2 hne hN.2.2.1, far2 hne hN.2.2.2⟩ | go_keep
      refine held_take 0 (some 11) (v := ?va0) rfl rfl (by kernel_rfl) (by kernel_rfl) (by kernel_rfl) (fun _ _ _ h => h) (by rfl) ?ya0 (by assumption) ?_
      case ya0 => ((intro w hSw); (try dsimp only at hSw); go_simp <;> (with_reducible rfl))
      try simp only [Act.put, List.setIfInBounds_toArray, List.set_cons_zero, List.set_cons_succ]
      refine held_take 1 (some 12) (v := ?va1) rfl rfl (by kernel_rfl) (by kernel_rfl) (by kernel_rfl) (fun _ _ _ h => h) (by rfl) ?ya1 (by assumption) ?_
      case ya1 => ((intro w hSw); (try dsimp only at hSw); go_simp <;> (with_reducible rfl))
      try simp only [Act.put, List.setIfInBounds_toArray, List.set_cons_zero, List.set_cons_succ]
      refine held_take 2 (some 13) (v := ?va2) rfl rfl (by kernel_rfl) (by kernel_rfl) (by kernel_rfl) (fun _ _ _ h => h) (by rfl) ?ya2 (by assumption) ?_
      case ya2 => ((intro w hSw); (try dsimp only at hSw); go_simp <;> (with_reducible rfl))
      try simp only [Act.put, List.setIfInBounds_toArray, List.set_cons_zero, List.set_cons_succ]
      refine held_take 3 (some 14) (v := ?va3) rfl rfl (by kernel_rfl) (by kernel_rfl) (by kernel_rfl) (fun _ _ _ h => h) (by rfl) ?ya3 (by assumption) ?_
      case ya3 => ((intro w hSw); (try dsimp only at hSw); go_simp <;> (with_reducible rfl))
      try simp only [Act.put, List.setIfInBounds_toArray, List.set_cons_zero, List.set_cons_succ]
      refine held_take 4 (some 15) (v := ?va4) rfl rfl (by kernel_rfl) (by kernel_rfl) (by kernel_rfl) (fun _ _ _ h => h) (by rfl) ?ya4 (by assumption) ?_
      case ya4 => ((intro w hSw); (try dsimp only at hSw); go_simp <;> (with_reducible rfl))
      try simp only [Act.put, List.setIfInBounds_toArray, List.set_cons_zero, List.set_cons_succ]
      refine held_take 5 (some 16) (v := ?va5) rfl rfl (by kernel_rfl) (by kernel_rfl) (by kernel_rfl) (fun _ _ _ h => h) (by rfl) ?ya5 (by assumption) ?_
      case ya5 => ((intro w hSw); (try dsimp only at hSw); go_simp <;> (with_reducible rfl))
      try simp only [Act.put, List.setIfInBounds_toArray, List.set_cons_zero, List.set_cons_succ]
      refine held_take 6 (some 17) (v := ?va6) rfl rfl (by kernel_rfl) (by kernel_rfl) (by kernel_rfl) (fun _ _ _ h => h) (by rfl) ?ya6 (by assumption) ?_
      case ya6 => ((intro w hSw); (try dsimp only at hSw); go_simp <;> (with_reducible rfl))
      try simp only [Act.put, List.setIfInBounds_toArray, List.set_cons_zero, List.set_cons_succ]
      refine held_take 7 (some 18) (v := ?va7) rfl rfl (by kernel_rfl) (by kernel_rfl) (by kernel_rfl) (fun _ _ _ h => h) (by rfl) ?ya7 (by assumption) ?_
      case ya7 => ((intro w hSw); (try dsimp only at hSw); go_simp <;> (with_reducible rfl))
      try simp only [Act.put, List.setIfInBounds_toArray, List.set_cons_zero, List.set_cons_succ]
      refine wpAnyH_ready (rs := [8]) (by kernel_rfl) (by simp) ?_
      refine AllReadyH.cons rfl (fun K hK => ?_) AllReadyH.nil
      go_simp
      refine hK.out _ _ ?hSa9 (fun hHeld => ?_)
      case hSa9 => first | assumption | exact ⟨far2 hne hN.1, far2 hne hN.2.1, far2 hne hN.2.2.1, far2 hne hN.2.2.2⟩ | go_keep
      clear hK K
      try simp only [Act.put, List.setIfInBounds_toArray, List.set_cons_zero, List.set_cons_succ]
      refine held_take 9 (some 3) (v := ?va9) rfl rfl (by kernel_rfl) (by kernel_rfl) (by kernel_rfl) (fun _ _ _ h => h) (by rfl) ?ya9 (by assumption) ?_
      case ya9 => ((intro w hSw); (try dsimp only at hSw); go_simp <;> (with_reducible rfl))
      try simp only [Act.put, List.setIfInBounds_toArray, List.set_cons_zero, List.set_cons_succ]
      refine wpAnyH_done (by kernel_rfl) ?_ _
      have HBS := Aside0.mk ((HB0.out.setCell (p := ⟨w.heap.size, 0, none⟩) (Nat.le_refl _) (.int .u64 k)).setCell (p := ⟨w.heap.size, 1, none⟩) (Nat.le_refl _) (.int .i64 v))
      have m1 := blk_set (blk_set HX0.out 0 (.int .u64 k)) 1 (.int .i64 v)
      have m2 := blk_cell m1 0
      have m3 := blk_cell m1 1
      have HRS := Aside0.mk (HRW.out.below HBS.out)
      generalize (w0.setCell ⟨w.heap.size, 0, none⟩ (Value.int .u64 k)).setCell ⟨w.heap.size, 1, none⟩ (Value.int .i64 v) = wd at *
      go_wp2
      exact bodyPost_ret (v := .tuple #[.agg #[.int .u64 k, .int .i64 v], .pointer pr]) (by simp [results, Try.results40, go_sem, m2, m3]) rfl ⟨⟨pr, rfl, HRS.out.below (below_drew (Below.refl _ _))⟩, HBS.out.trans ((below_drew (Below.refl _ _)).mono HBS.out.size)⟩
    | node ll lk lv lr =>
      obtain ⟨gl, pll, plr, rfl, hgl, hll, hlr⟩ := id HL0.out
      have HLEQ := Aside0.mk (show leastT (.node (.node ll lk lv lr) k v r) = ((leastT (.node ll lk lv lr)).1, evenT (leastT (.node ll lk lv lr)).2 k v r) from rfl)
      have HZ := Aside0.mk (sz_least (.node ll lk lv lr))
      clear hgl hll hlr
      generalize leastT (.node (.node ll lk lv lr) k v r) = res at *
      generalize hlt : T.node ll lk lv lr = l at *
      have HLT := Aside0.mk hlt
      clear hlt
      go_wp2_with fail
      generalize (w.alloc (.cells #[.int .u64 0, .int .i64 0] 45)) = w0 at *
      refine (IHL.out _ _ _ _ HLT.out.symm _ w0 HL0.out (by have := HSZ.out; omega)).mono ?_
      rintro e w1 ⟨⟨q1, rfl, hq1⟩, hb1⟩
      generalize hlr2 : leastT l = lres at *
      obtain ⟨⟨x0, x1⟩, lt⟩ := lres
      simp only [] at HLEQ HZ hq1 ⊢
      have HB1 := Aside0.mk (HB0.out.trans (hb1.mono HB0.out.size))
      have HX1 := Aside0.mk (blk_below HX0.out hb1)
      have HG1 := Aside0.mk (blk_below HG0.out hb1)
      have HR1 := Aside0.mk (HR0.out.below hb1)
      have HQ1 := Aside0.mk hq1
      clear hq1 hb1 hlr2 HB0 HX0 HG0 HR0 HL0 c2
      go_wp2_with fail

      generalize hbx2 : (w1.alloc (.cells #[.int .u64 x0, .int .i64 x1] 45)) = w2 at *
      have hb2 : Below w1.heap.size w1 w2 := by rw [← hbx2]; exact (Below.refl w1.heap.size w1).alloc (Nat.le_refl _) _
      have HX2 := Aside0.mk (show w2.heap[w1.heap.size]? = some (.cells #[.int .u64 x0, .int .i64 x1] 45 (0, 0)) from by rw [← hbx2]; exact blk_new w1 _)
      have HB2 := Aside0.mk (HB1.out.trans (hb2.mono HB1.out.size))
      have HO2 := Aside0.mk (blk_below HX1.out hb2)
      have HG2 := Aside0.mk (blk_below HG1.out hb2)
      have HR2 := Aside0.mk (HR1.out.below hb2)
      have HQ2 := Aside0.mk (HQ1.out.below hb2)
      have HLT2 := Aside0.mk (And.intro (blk_lt HX1.out) HB1.out.size)
      have HW12 := Aside0.mk hb2
      have HRW1 := Aside0.mk (Nat.le_refl w.heap.size)
      clear hb2 hbx2 HB1 HX1 HG1 HR1 HQ1
      have hN : w2.cell? ⟨g, 0, none⟩ = some (.int .u64 k) ∧ w2.cell? ⟨g, 1, none⟩ = some (.int .i64 v) ∧ w2.cell? ⟨g, 2, none⟩ = some (.pointer (some ⟨gl, 0, none⟩)) ∧ w2.cell? ⟨g, 3, none⟩ = some (.pointer pr) ∧ w2.cell? ⟨w1.heap.size, 0, none⟩ = some (.int .u64 x0) ∧ w2.cell? ⟨w1.heap.size, 1, none⟩ = some (.int .i64 x1) :=
        ⟨(node_cells HG2.out).1, (node_cells HG2.out).2.1, (node_cells HG2.out).2.2.1, (node_cells HG2.out).2.2.2, blk_cell HX2.out 0, blk_cell HX2.out 1⟩
      have HQD := Aside0.mk (HQ2.out.below (below_drew (Below.refl _ w2)))
      have HRD := Aside0.mk (HR2.out.below (below_drew (Below.refl _ w2)))
      have HBD := Aside0.mk (HB2.out.trans ((below_drew (Below.refl _ w2)).mono HB2.out.size))
      have HOD := Aside0.mk (show w2.drew.heap[w.heap.size]? = _ from HO2.out)
      have hne : ¬ g = w.heap.size := by have := HGH.out; omega
      have hne2 : ¬ w1.heap.size = w.heap.size := by have := HLT2.out.1; omega
      refine wp_region_held_drew (S := (fun w' => w'.cell? ⟨g, 0, none⟩ = some (.int .u64 k) ∧ w'.cell? ⟨g, 1, none⟩ = some (.int .i64 v) ∧ w'.cell? ⟨g, 2, none⟩ = some (.pointer (some ⟨gl, 0, none⟩)) ∧ w'.cell? ⟨g, 3, none⟩ = some (.pointer pr) ∧ w'.cell? ⟨w1.heap.size, 0, none⟩ = some (.int .u64 x0) ∧ w'.cell? ⟨w1.heap.size, 1, none⟩ = some (.int .i64 x1))) (by kernel_rfl) ?hSb0 (fun hHeld => ?_)
      case hSb0 => first | assumption | exact ⟨far2 hne K5.1, far2 hne K5.2.1, far2 hne K5.2.2.1, far2 hne K5.2.2.2.1, far2 hne2 K5.2.2.2.2.1, far2 hne2 K5.2.2.2.2.2⟩ | go_keep
      refine held_take 0 (some 27) (v := ?vb0) rfl rfl (by kernel_rfl) (by kernel_rfl) (by kernel_rfl) (fun _ _ _ h => h) (by rfl) ?yb0 (by assumption) ?_
      case yb0 => ((intro w hSw); (try dsimp only at hSw); go_simp <;> (with_reducible rfl))
      try simp only [Act.put, List.setIfInBounds_toArray, List.set_cons_zero, List.set_cons_succ]
      refine held_take 1 (some 28) (v := ?vb1) rfl rfl (by kernel_rfl) (by kernel_rfl) (by kernel_rfl) (fun _ _ _ h => h) (by rfl) ?yb1 (by assumption) ?_
      case yb1 => ((intro w hSw); (try dsimp only at hSw); go_simp <;> (with_reducible rfl))
      try simp only [Act.put, List.setIfInBounds_toArray, List.set_cons_zero, List.set_cons_succ]
      refine held_take 2 (some 29) (v := ?vb2) rfl rfl (by kernel_rfl) (by kernel_rfl) (by kernel_rfl) (fun _ _ _ h => h) (by rfl) ?yb2 (by assumption) ?_
      case yb2 => ((intro w hSw); (try dsimp only at hSw); go_simp <;> (with_reducible rfl))
      try simp only [Act.put, List.setIfInBounds_toArray, List.set_cons_zero, List.set_cons_succ]
      refine held_take 3 (some 30) (v := ?vb3) rfl rfl (by kernel_rfl) (by kernel_rfl) (by kernel_rfl) (fun _ _ _ h => h) (by rfl) ?yb3 (by assumption) ?_
      case yb3 => ((intro w hSw); (try dsimp only at hSw); go_simp <;> (with_reducible rfl))
      try simp only [Act.put, List.setIfInBounds_toArray, List.set_cons_zero, List.set_cons_succ]
      refine held_take 4 (some 31) (v := ?vb4) rfl rfl (by kernel_rfl) (by kernel_rfl) (by kernel_rfl) (fun _ _ _ h => h) (by rfl) ?yb4 (by assumption) ?_
      case yb4 => ((intro w hSw); (try dsimp only at hSw); go_simp <;> (with_reducible rfl))
      try simp only [Act.put, List.setIfInBounds_toArray, List.set_cons_zero, List.set_cons_succ]
      refine held_take 5 (some 32) (v := ?vb5) rfl rfl (by kernel_rfl) (by kernel_rfl) (by kernel_rfl) (fun _ _ _ h => h) (by rfl) ?yb5 (by assumption) ?_
      case yb5 => ((intro w hSw); (try dsimp only at hSw); go_simp <;> (with_reducible rfl))
      try simp only [Act.put, List.setIfInBounds_toArray, List.set_cons_zero, List.set_cons_succ]
      refine held_take 6 (some 33) (v := ?vb6) rfl rfl (by kernel_rfl) (by kernel_rfl) (by kernel_rfl) (fun _ _ _ h => h) (by rfl) ?yb6 (by assumption) ?_
      case yb6 => ((intro w hSw); (try dsimp only at hSw); go_simp <;> (with_reducible rfl))
      try simp only [Act.put, List.setIfInBounds_toArray, List.set_cons_zero, List.set_cons_succ]
      refine held_take 7 (some 34) (v := ?vb7) rfl rfl (by kernel_rfl) (by kernel_rfl) (by kernel_rfl) (fun _ _ _ h => h) (by rfl) ?yb7 (by assumption) ?_
      case yb7 => ((intro w hSw); (try dsimp only at hSw); go_simp <;> (with_reducible rfl))
      try simp only [Act.put, List.setIfInBounds_toArray, List.set_cons_zero, List.set_cons_succ]
      refine held_take 8 (some 35) (v := ?vb8) rfl rfl (by kernel_rfl) (by kernel_rfl) (by kernel_rfl) (fun _ _ _ h => h) (by rfl) ?yb8 (by assumption) ?_
      case yb8 => ((intro w hSw); (try dsimp only at hSw); go_simp <;> (with_reducible rfl))
      try simp only [Act.put, List.setIfInBounds_toArray, List.set_cons_zero, List.set_cons_succ]
      refine held_take 9 (some 36) (v := ?vb9) rfl rfl (by kernel_rfl) (by kernel_rfl) (by kernel_rfl) (fun _ _ _ h => h) (by rfl) ?yb9 (by assumption) ?_
      case yb9 => ((intro w hSw); (try dsimp only at hSw); go_simp <;> (with_reducible rfl))
      try simp only [Act.put, List.setIfInBounds_toArray, List.set_cons_zero, List.set_cons_succ]
      refine wpAnyH_ready (rs := [10]) (by kernel_rfl) (by simp) ?_
      refine AllReadyH.cons rfl (fun K hK => ?_) AllReadyH.nil
      go_simp
      refine (even_any q1 lt k v pr r _ HQD.out HRD.out (by have := HSZ.out; have := HZ.out; omega)).mono ?_
      rintro e w5 ⟨⟨p5, rfl, ht5⟩, hb5⟩
      have K5 := cells6_below (by assumption) hb5
      have HT5 := Aside0.mk ht5
      have HO5 := Aside0.mk (blk_below HOD.out hb5)
      have k0 := blk_cell HO5.out 0
      have k1 := blk_cell HO5.out 1
      have f0 := blk_frozen HO5.out 0
      have f1 := blk_frozen HO5.out 1
      have HB5 := Aside0.mk (HBD.out.trans (hb5.mono HBD.out.size))
      clear ht5 hb5
      refine hK.out _ _ ?hSb11 (fun hHeld => ?_)
      case hSb11 => first | assumption | exact ⟨far2 hne K5.1, far2 hne K5.2.1, far2 hne K5.2.2.1, far2 hne K5.2.2.2.1, far2 hne2 K5.2.2.2.2.1, far2 hne2 K5.2.2.2.2.2⟩ | go_keep
      clear hK K
      try simp only [Act.put, List.setIfInBounds_toArray, List.set_cons_zero, List.set_cons_succ]
      refine wpAnyH_ready (rs := [11]) (by kernel_rfl) (by simp) ?_
      refine AllReadyH.cons rfl (fun K hK => ?_) AllReadyH.nil
      go_simp
      refine hK.out _ _ ?hSb12 (fun hHeld => ?_)
      case hSb12 => first | assumption | exact ⟨far2 hne K5.1, far2 hne K5.2.1, far2 hne K5.2.2.1, far2 hne K5.2.2.2.1, far2 hne2 K5.2.2.2.2.1, far2 hne2 K5.2.2.2.2.2⟩ | go_keep
      clear hK K
      try simp only [Act.put, List.setIfInBounds_toArray, List.set_cons_zero, List.set_cons_succ]
      refine held_take 12 (some 3) (v := ?vb12) rfl rfl (by kernel_rfl) (by kernel_rfl) (by kernel_rfl) (fun _ _ _ h => h) (by rfl) ?yb12 (by assumption) ?_
      case yb12 => ((intro w hSw); (try dsimp only at hSw); go_simp <;> (with_reducible rfl))
      try simp only [Act.put, List.setIfInBounds_toArray, List.set_cons_zero, List.set_cons_succ]
      refine wpAnyH_done (by kernel_rfl) ?_ _
      have HFT := Aside0.mk ((HT5.out.far HO5.out (j := 0) (u := .int .u64 x0)).far (blk_set HO5.out 0 (.int .u64 x0)) (j := 1) (u := .int .i64 x1))
      have HBS := Aside0.mk ((HB5.out.setCell (p := ⟨w.heap.size, 0, none⟩) (Nat.le_refl _) (.int .u64 x0)).setCell (p := ⟨w.heap.size, 1, none⟩) (Nat.le_refl _) (.int .i64 x1))
      have m1 := blk_set (blk_set HO5.out 0 (.int .u64 x0)) 1 (.int .i64 x1)
      have m2 := blk_cell m1 0
      have m3 := blk_cell m1 1
      generalize (w5.setCell ⟨w.heap.size, 0, none⟩ (Value.int .u64 x0)).setCell ⟨w.heap.size, 1, none⟩ (Value.int .i64 x1) = wd at *
      go_wp2
      exact bodyPost_ret (v := .tuple #[.agg #[.int .u64 x0, .int .i64 x1], .pointer p5]) (by simp [results, Try.results40, go_sem, m2, m3]) rfl ⟨⟨p5, by rw [HLEQ.out], by rw [HLEQ.out]; exact HFT.out⟩, HBS.out⟩
end Go.Proofs.Ytbiccahkniadfaa.H
